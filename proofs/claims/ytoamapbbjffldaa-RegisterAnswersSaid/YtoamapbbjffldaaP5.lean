import Derived.Test.YtoamapbbjffldaaP2
set_option linter.unusedSimpArgs false
set_option linter.unusedVariables false
namespace Go.Proofs
open Go Go.TL
/-! ltSto, ltO2, ltO1, ltAs, ltA, ltC, ltCs, ltT, ltFr, ltS, wrOk, wrO, TL.get, hasFr, ↓reduceIte, Nat.reduceEqDiff, reduceCtorEq, Option.getD_some, Option.isSome_some, List.length_map, List.length_append, List.length_cons, List.length_nil, List.append_nil, List.mem_singleton, List.mem_cons, List.not_mem_nil, and_true, true_and, and_self, imp_self, forall_const, false_implies, implies_true, true_implies, or_false, Bool.false_eq_true, Bool.true_eq_false, ImXs_nil, true_or, or_true, false_or, false_and, and_false, rmK, rm1# RegisterAnswers -/
theorem mod_range {n m : Int} (h : 1 ≤ m) : 0 ≤ modI n m ∧ modI n m < m := by
  unfold modI
  rw [if_neg (by omega)]
  exact ⟨Int.emod_nonneg _ (by omega), Int.emod_lt_of_pos _ (by omega)⟩
theorem entEq_refl (x : Ent) : entEq x x = true := by simp [entEq]
theorem same_true (l : List Ent) : sameL entEq l l = true := sameL_refl entEq_refl l
theorem rp1 {x : Ent} {n : Int} : repl (entT x) 1 (vU n) = entT { x with before := n } := rfl
theorem rp2 {x : Ent} {n : Int} : repl (entT x) 2 (vI n) = entT { x with kind := n } := rfl
theorem rp3 {x : Ent} {n : Int} : repl (entT x) 3 (vI n) = entT { x with of_ := n } := rfl
theorem rp4 {x : Ent} {n : Int} : repl (entT x) 4 (vI n) = entT { x with out := n } := rfl
theorem rp6 {x : Ent} {n : Int} : repl (entT x) 6 (vU n) = entT { x with link := n } := rfl
theorem rpOk {x : Ent} {v : T} : replOk (entT x) v = True := by simp [replOk, entT]
/-- a register in which one entry is another one -/
theorem set_small {L : List Ent} {k : Nat} {y : Ent} (h : small L) (hy : y.text.size ≤ 1000000000) : small (L.set k y) := fun x hx => by
  rcases List.mem_or_eq_of_mem_set hx with h1 | h1
  · exact h x h1
  · rw [h1]; exact hy
theorem text_small {L : List Ent} (hc : chkI L = 0) {k : Nat} (h : k < L.length) : L[k].text.size ≤ 4096 := about_size (chk_about hc k h)
set_option maxHeartbeats 4000000 in
theorem c_law38_RegisterAnswers (b : List UInt8) (x : Ent) (raw : List Ent) (kind of_ out : Int) (text : ByteArray) (l : List UInt8) (what : Int) :
    Spc Try.prog F_law38_RegisterAnswers [vL b, entT x, vEs raw, vI kind, vI of_, vI out, vS text, vL l, vI what] [] (vB true) [] := by
  refine spec_of_ir fn_law38_RegisterAnswers mixm (by simp) fun e _ hst => W_start ?_
  unfold ir_law38_RegisterAnswers
  simp only [tl, tl2, isCallR, entX, argFr, ret, retI, retB, intT, unT, endR, ressR, resR, tupT, bslR, boxR, lenAll, ↓reduceIte, Nat.reduceEqDiff, Nat.reduceAdd, Nat.reduceMul, Nat.reduceLT, Nat.reduceLeDiff, reduceCtorEq, Int.reduceLE, Int.reduceLT, ne_eq, Int.reduceEq, not_false_eq_true, decide_true, decide_false, Int.reduceToNat, tl3, Int.reduceBNe, Int.reduceBEq, rmK, rm1, not_true_eq_false, entT]
  refine ⟨fun h1 => ?_, fun h1 => ?_⟩
  · refine C1.im c_law38_awake rfl (by rfl) ?_
    simp only [tl, tl2, isCallR, entX, argFr, ret, retI, retB, intT, unT, endR, ressR, resR, tupT, bslR, boxR, lenAll, ↓reduceIte, Nat.reduceEqDiff, Nat.reduceAdd, Nat.reduceMul, Nat.reduceLT, Nat.reduceLeDiff, reduceCtorEq, Int.reduceLE, Int.reduceLT, ne_eq, Int.reduceEq, not_false_eq_true, decide_true, decide_false, Int.reduceToNat, tl3, Int.reduceBNe, Int.reduceBEq, rmK, rm1, not_true_eq_false]
    exact .imR rfl rfl
  simp only [Bool.or_eq_false_iff, decide_eq_false_iff_not] at h1
  obtain ⟨⟨⟨hb, hx⟩, hraw⟩, htext⟩ := h1
  refine W_loopF mixm (α := Nat) [62] (fun i => i ≤ raw.length ∧ (∀ y ∈ raw.take i, y.text.size ≤ 300)) (fun i => [(62, vI i)]) (fun i => [(4096, oE x)]) (fun i => raw.length - i) 0 ⟨by omega, ?_⟩ ?_ fun i hi => ?_
  · intro y hy; simp at hy
  · refine .of [(4096, some 4096)] [] rfl (by first | rfl | (rw [hst]; rfl)) ?_ ?_
    all_goals (try simp only [ltSto, ltO2, ltO1, ltAs, ltA, ltC, ltCs, ltT, ltFr, ltS, wrOk, wrO, TL.get, hasFr, ↓reduceIte, Nat.reduceEqDiff, reduceCtorEq, Option.getD_some, Option.isSome_some, List.length_map, List.length_append, List.length_cons, List.length_nil, List.append_nil, List.mem_singleton, List.mem_cons, List.not_mem_nil, and_true, true_and, and_self, imp_self, forall_const, false_implies, implies_true, true_implies, or_false, Bool.false_eq_true, Bool.true_eq_false, ImXs_nil, true_or, or_true, false_or, false_and, and_false, rmK, rm1, List.map_append, List.map_cons, List.map_nil, List.cons_append, List.nil_append])
    all_goals (try (repeat' (first
        | exact ltXs_nil
        | (apply ltXs_map; intro _; exact ⟨rfl, rfl⟩)
        | (apply imXs_map; intro _; exact ⟨rfl, rfl⟩)
        | with_reducible apply imXs_append
        | with_reducible refine imXs_cons ⟨rfl, rfl⟩ ?_
        | exact imXs_nil
        | with_reducible apply ltXs_append
        | with_reducible refine ltXs_cons ⟨rfl, rfl, ?_⟩ ?_
        | with_reducible apply And.intro
        | exact ltCs_im rfl
        | exact ltCs_im (by assumption)
        | (refine ⟨⟨?_, rfl, ?_, rfl, ?_⟩, trivial⟩ <;> first | (simp; done) | (apply imXs_map; intro _; exact ⟨rfl, rfl⟩))
        | trivial
        | rfl
        | (rw [i64_succ (by omega)])
        | omega)))
  simp only [tl, tl2, isCallR, entX, argFr, ret, retI, retB, intT, unT, endR, ressR, resR, tupT, bslR, boxR, lenAll, ↓reduceIte, Nat.reduceEqDiff, Nat.reduceAdd, Nat.reduceMul, Nat.reduceLT, Nat.reduceLeDiff, reduceCtorEq, Int.reduceLE, Int.reduceLT, ne_eq, Int.reduceEq, not_false_eq_true, decide_true, decide_false, Int.reduceToNat, tl3, Int.reduceBNe, Int.reduceBEq, rmK, rm1, not_true_eq_false, decide_eq_true_eq, decide_eq_false_iff_not]
  refine ⟨fun h => ?_, fun h => ?_⟩
  · have hi3 : i < raw.length := by omega
    have hts := take_snoc hi3
    have hi2 : i < raw.length := by omega
    have hwi := i64_succ (i := i) (by omega)
    simp only [tl, tl2, isCallR, entX, argFr, ret, retI, retB, intT, unT, endR, ressR, resR, tupT, bslR, boxR, lenAll, ↓reduceIte, Nat.reduceEqDiff, Nat.reduceAdd, Nat.reduceMul, Nat.reduceLT, Nat.reduceLeDiff, reduceCtorEq, Int.reduceLE, Int.reduceLT, ne_eq, Int.reduceEq, not_false_eq_true, decide_true, decide_false, Int.reduceToNat, tl3, Int.reduceBNe, Int.reduceBEq, rmK, rm1, not_true_eq_false, Int.toNat_natCast, getD_mapT hi2, hwi, entT, decide_eq_true_eq, decide_eq_false_iff_not]
    refine ⟨by omega, fun h2 => ?_, fun h2 => ?_⟩
    · refine C1.im c_law38_awake rfl (by rfl) ?_
      simp only [tl, tl2, isCallR, entX, argFr, ret, retI, retB, intT, unT, endR, ressR, resR, tupT, bslR, boxR, lenAll, ↓reduceIte, Nat.reduceEqDiff, Nat.reduceAdd, Nat.reduceMul, Nat.reduceLT, Nat.reduceLeDiff, reduceCtorEq, Int.reduceLE, Int.reduceLT, ne_eq, Int.reduceEq, not_false_eq_true, decide_true, decide_false, Int.reduceToNat, tl3, Int.reduceBNe, Int.reduceBEq, rmK, rm1, not_true_eq_false]
      exact .imR rfl rfl
    · refine ⟨i + 1, ⟨by omega, fun y hy => ?_⟩, by omega, ?_⟩
      · rw [hts] at hy
        rcases List.mem_append.1 hy with h | h
        · exact hi.2 y h
        · simp only [List.mem_cons, List.not_mem_nil, or_false] at h
          rw [h]; omega
      · refine .of [(4096, some 4096)] [] rfl (by first | rfl | (rw [hst]; rfl)) ?_ ?_
        all_goals (try simp only [ltSto, ltO2, ltO1, ltAs, ltA, ltC, ltCs, ltT, ltFr, ltS, wrOk, wrO, TL.get, hasFr, ↓reduceIte, Nat.reduceEqDiff, reduceCtorEq, Option.getD_some, Option.isSome_some, List.length_map, List.length_append, List.length_cons, List.length_nil, List.append_nil, List.mem_singleton, List.mem_cons, List.not_mem_nil, and_true, true_and, and_self, imp_self, forall_const, false_implies, implies_true, true_implies, or_false, Bool.false_eq_true, Bool.true_eq_false, ImXs_nil, true_or, or_true, false_or, false_and, and_false, rmK, rm1, List.map_append, List.map_cons, List.map_nil, List.cons_append, List.nil_append])
        all_goals (try (repeat' (first
            | exact ltXs_nil
            | (apply ltXs_map; intro _; exact ⟨rfl, rfl⟩)
            | (apply imXs_map; intro _; exact ⟨rfl, rfl⟩)
            | with_reducible apply imXs_append
            | with_reducible refine imXs_cons ⟨rfl, rfl⟩ ?_
            | exact imXs_nil
            | with_reducible apply ltXs_append
            | with_reducible refine ltXs_cons ⟨rfl, rfl, ?_⟩ ?_
            | with_reducible apply And.intro
            | exact ltCs_im rfl
            | exact ltCs_im (by assumption)
            | (refine ⟨⟨?_, rfl, ?_, rfl, ?_⟩, trivial⟩ <;> first | (simp; done) | (apply imXs_map; intro _; exact ⟨rfl, rfl⟩))
            | trivial
            | rfl
            | (rw [i64_succ (by omega)])
            | omega)))
  have h2 : i = raw.length := by omega
  obtain ⟨_, hrs⟩ := hi
  rw [h2, List.take_length] at hrs
  have hraws : small raw := fun y hy => by have := hrs y hy; omega
  refine C1.newdraw 40964 (c_draw_New l) rfl rfl ?_
  simp only [tl, tl2, isCallR, entX, argFr, ret, retI, retB, intT, unT, endR, ressR, resR, tupT, bslR, boxR, lenAll, ↓reduceIte, Nat.reduceEqDiff, Nat.reduceAdd, Nat.reduceMul, Nat.reduceLT, Nat.reduceLeDiff, reduceCtorEq, Int.reduceLE, Int.reduceLT, ne_eq, Int.reduceEq, not_false_eq_true, decide_true, decide_false, Int.reduceToNat, tl3, Int.reduceBNe, Int.reduceBEq, rmK, rm1, not_true_eq_false]
  refine C1.draw 40964 (l.take 400) 0 _ (c_made l) rfl rfl rfl ?_
  obtain ⟨hc, hlen, hsm⟩ := made_ok l
  obtain ⟨L, hL⟩ : ∃ L, L = madeR l := ⟨_, rfl⟩
  rw [← hL] at hc hlen hsm ⊢
  simp only [tl, tl2, isCallR, entX, argFr, ret, retI, retB, intT, unT, endR, ressR, resR, tupT, bslR, boxR, lenAll, ↓reduceIte, Nat.reduceEqDiff, Nat.reduceAdd, Nat.reduceMul, Nat.reduceLT, Nat.reduceLeDiff, reduceCtorEq, Int.reduceLE, Int.reduceLT, ne_eq, Int.reduceEq, not_false_eq_true, decide_true, decide_false, Int.reduceToNat, tl3, Int.reduceBNe, Int.reduceBEq, rmK, rm1, not_true_eq_false, decide_eq_true_eq, decide_eq_false_iff_not]
  refine ⟨by omega, fun h3 => ?_, fun h3 => ?_⟩
  · have hLp : 1 ≤ (L.length : Int) := by omega
    refine C1.im (c_draw_Mod what L.length (by omega)) rfl (by rfl) ?_
    obtain ⟨g1, g2⟩ := mod_range (n := what) hLp
    obtain ⟨k, hk⟩ : ∃ k : Nat, modI what L.length = k := ⟨(modI what L.length).toNat, by omega⟩
    have hkl : k < L.length := by omega
    have hxs := text_small hc hkl
    rw [hk]
    simp only [tl, tl2, isCallR, entX, argFr, ret, retI, retB, intT, unT, endR, ressR, resR, tupT, bslR, boxR, lenAll, ↓reduceIte, Nat.reduceEqDiff, Nat.reduceAdd, Nat.reduceMul, Nat.reduceLT, Nat.reduceLeDiff, reduceCtorEq, Int.reduceLE, Int.reduceLT, ne_eq, Int.reduceEq, not_false_eq_true, decide_true, decide_false, Int.reduceToNat, tl3, Int.reduceBNe, Int.reduceBEq, rmK, rm1, not_true_eq_false]
    refine C1.im (c_draw_Mod what 7 (by omega)) rfl (by rfl) ?_
    simp only [tl, tl2, isCallR, entX, argFr, ret, retI, retB, intT, unT, endR, ressR, resR, tupT, bslR, boxR, lenAll, ↓reduceIte, Nat.reduceEqDiff, Nat.reduceAdd, Nat.reduceMul, Nat.reduceLT, Nat.reduceLeDiff, reduceCtorEq, Int.reduceLE, Int.reduceLT, ne_eq, Int.reduceEq, not_false_eq_true, decide_true, decide_false, Int.reduceToNat, tl3, Int.reduceBNe, Int.reduceBEq, rmK, rm1, not_true_eq_false, Int.toNat_natCast, getD_mapT hkl, ent5, ent6, ent1, repl_text, rp3, rp6, rp1, rpOk, ent_len, beq_iff_eq, beq_eq_false_iff_ne]
    refine ⟨fun _ => ?_, fun _ => ⟨fun _ => ?_, fun _ => ⟨fun _ => ?_, fun _ => ⟨fun _ => ?_, fun _ => ⟨fun _ => ?_, fun _ => ⟨fun _ => ?_, fun _ => ?_⟩⟩⟩⟩⟩⟩
    · refine ⟨by omega, by omega, by have : (⟨#[120]⟩ : ByteArray).size = 1 := rfl; omega, by omega, by omega, ?_⟩
      obtain ⟨odd, ho⟩ : ∃ o, o = L.set k { L[k] with text := L[k].text ++ ⟨#[120]⟩ } := ⟨_, rfl⟩
      rw [← List.map_set, ← ho]
      have hol : odd.length ≤ 8 := by rw [ho, List.length_set]; omega
      have hos : small odd := by rw [ho]; exact set_small hsm (by simp only [ByteArray.size_append]; have : (⟨#[120]⟩ : ByteArray).size = 1 := rfl; omega)
      have hoL : L.length = odd.length := by rw [ho, List.length_set]
      rw [hoL]
      clear ho
      refine C1.im (c_register_Sum b (by omega)) rfl (by rfl) ?_
      simp only [tl, tl2, isCallR, entX, argFr, ret, retI, retB, intT, unT, endR, ressR, resR, tupT, bslR, boxR, lenAll, ↓reduceIte, Nat.reduceEqDiff, Nat.reduceAdd, Nat.reduceMul, Nat.reduceLT, Nat.reduceLeDiff, reduceCtorEq, Int.reduceLE, Int.reduceLT, ne_eq, Int.reduceEq, not_false_eq_true, decide_true, decide_false, Int.reduceToNat, tl3, Int.reduceBNe, Int.reduceBEq, rmK, rm1, not_true_eq_false]
      refine C1.im (c_ref38_Sum b (by omega)) rfl (by rfl) ?_
      simp only [tl, tl2, isCallR, entX, argFr, ret, retI, retB, intT, unT, endR, ressR, resR, tupT, bslR, boxR, lenAll, ↓reduceIte, Nat.reduceEqDiff, Nat.reduceAdd, Nat.reduceMul, Nat.reduceLT, Nat.reduceLeDiff, reduceCtorEq, Int.reduceLE, Int.reduceLT, ne_eq, Int.reduceEq, not_false_eq_true, decide_true, decide_false, Int.reduceToNat, tl3, Int.reduceBNe, Int.reduceBEq, rmK, rm1, not_true_eq_false, bne_self_eq_false, entT]
      refine C2.im (fun _ => c_register_Link x (by omega)) (fun _ => rfl) (by rfl) ?_
      simp only [tl, tl2, isCallR, entX, argFr, ret, retI, retB, intT, unT, endR, ressR, resR, tupT, bslR, boxR, lenAll, ↓reduceIte, Nat.reduceEqDiff, Nat.reduceAdd, Nat.reduceMul, Nat.reduceLT, Nat.reduceLeDiff, reduceCtorEq, Int.reduceLE, Int.reduceLT, ne_eq, Int.reduceEq, not_false_eq_true, decide_true, decide_false, Int.reduceToNat, tl3, Int.reduceBNe, Int.reduceBEq, rmK, rm1, not_true_eq_false]
      refine C2.im (fun _ => c_ref38_Link x (by omega)) (fun _ => rfl) (by rfl) ?_
      simp only [tl, tl2, isCallR, entX, argFr, ret, retI, retB, intT, unT, endR, ressR, resR, tupT, bslR, boxR, lenAll, ↓reduceIte, Nat.reduceEqDiff, Nat.reduceAdd, Nat.reduceMul, Nat.reduceLT, Nat.reduceLeDiff, reduceCtorEq, Int.reduceLE, Int.reduceLT, ne_eq, Int.reduceEq, not_false_eq_true, decide_true, decide_false, Int.reduceToNat, tl3, Int.reduceBNe, Int.reduceBEq, rmK, rm1, not_true_eq_false, bne_self_eq_false]
      refine ⟨by kernel_rfl, ?_⟩
      obtain ⟨rs, hrs2⟩ : ∃ rs, rs = [raw, L, odd] := ⟨_, rfl⟩
      have hrl : rs.length = 3 := by rw [hrs2]; rfl
      have hrsa : ∀ r ∈ rs, r.length ≤ 20 ∧ small r := by
        intro r hr
        rw [hrs2] at hr
        simp only [List.mem_cons, List.not_mem_nil, or_false] at hr
        rcases hr with rfl | rfl | rfl
        · exact ⟨by omega, hraws⟩
        · exact ⟨by omega, hsm⟩
        · exact ⟨by omega, hos⟩
      refine W_loopF mixm (α := Nat) [190] (fun a => a ≤ 3) (fun a => [(190, vI a)]) (fun a => [(139276, .arr 1 (rs.map vEs) false)]) (fun a => 3 - a) 0 (by omega) ?_ fun a ha => ?_
      · refine .of [(139276, some 139276)] [49152] rfl (by first | rfl | (rw [hst]; rfl)) ?_ ?_
        all_goals (try simp only [ltSto, ltO2, ltO1, ltAs, ltA, ltC, ltCs, ltT, ltFr, ltS, wrOk, wrO, TL.get, hasFr, ↓reduceIte, Nat.reduceEqDiff, reduceCtorEq, Option.getD_some, Option.isSome_some, List.length_map, List.length_append, List.length_cons, List.length_nil, List.append_nil, List.mem_singleton, List.mem_cons, List.not_mem_nil, and_true, true_and, and_self, imp_self, forall_const, false_implies, implies_true, true_implies, or_false, Bool.false_eq_true, Bool.true_eq_false, ImXs_nil, true_or, or_true, false_or, false_and, and_false, rmK, rm1, List.map_append, List.map_cons, List.map_nil, List.cons_append, List.nil_append, hrs2, ltS, List.length_map])
        all_goals (try (repeat' (first
            | exact ltXs_nil
            | (apply ltXs_map; intro _; exact ⟨rfl, rfl⟩)
            | (apply imXs_map; intro _; exact ⟨rfl, rfl⟩)
            | with_reducible apply imXs_append
            | with_reducible refine imXs_cons ⟨rfl, rfl⟩ ?_
            | exact imXs_nil
            | with_reducible apply ltXs_append
            | with_reducible refine ltXs_cons ⟨rfl, rfl, ?_⟩ ?_
            | with_reducible apply And.intro
            | exact ltCs_im rfl
            | exact ltCs_im (by assumption)
            | (refine ⟨⟨?_, rfl, ?_, rfl, ?_⟩, trivial⟩ <;> first | (simp; done) | (apply imXs_map; intro _; exact ⟨rfl, rfl⟩))
            | trivial
            | rfl
            | (rw [i64_succ (by omega)])
            | omega)))
      simp only [tl, tl2, isCallR, entX, argFr, ret, retI, retB, intT, unT, endR, ressR, resR, tupT, bslR, boxR, lenAll, ↓reduceIte, Nat.reduceEqDiff, Nat.reduceAdd, Nat.reduceMul, Nat.reduceLT, Nat.reduceLeDiff, reduceCtorEq, Int.reduceLE, Int.reduceLT, ne_eq, Int.reduceEq, not_false_eq_true, decide_true, decide_false, Int.reduceToNat, tl3, Int.reduceBNe, Int.reduceBEq, rmK, rm1, not_true_eq_false, decide_eq_true_eq, decide_eq_false_iff_not]
      refine ⟨fun h => ?_, fun h => ?_⟩
      · have ha3 : a < rs.length := by omega
        obtain ⟨hr1, hr2⟩ := hrsa rs[a] (List.getElem_mem _)
        have hwa := i64_succ (i := a) (by omega)
        simp only [tl, tl2, isCallR, entX, argFr, ret, retI, retB, intT, unT, endR, ressR, resR, tupT, bslR, boxR, lenAll, ↓reduceIte, Nat.reduceEqDiff, Nat.reduceAdd, Nat.reduceMul, Nat.reduceLT, Nat.reduceLeDiff, reduceCtorEq, Int.reduceLE, Int.reduceLT, ne_eq, Int.reduceEq, not_false_eq_true, decide_true, decide_false, Int.reduceToNat, tl3, Int.reduceBNe, Int.reduceBEq, rmK, rm1, not_true_eq_false, Int.toNat_natCast, getD_mapT ha3, hrl, List.length_map]
        refine ⟨by omega, by omega, ?_⟩
        obtain ⟨r, hr⟩ : ∃ r, r = rs[a] := ⟨_, rfl⟩
        rw [← hr] at hr1 hr2 ⊢
        refine C1.im (c_register_Check r (by omega) hr2) rfl (by rfl) ?_
        simp only [tl, tl2, isCallR, entX, argFr, ret, retI, retB, intT, unT, endR, ressR, resR, tupT, bslR, boxR, lenAll, ↓reduceIte, Nat.reduceEqDiff, Nat.reduceAdd, Nat.reduceMul, Nat.reduceLT, Nat.reduceLeDiff, reduceCtorEq, Int.reduceLE, Int.reduceLT, ne_eq, Int.reduceEq, not_false_eq_true, decide_true, decide_false, Int.reduceToNat, tl3, Int.reduceBNe, Int.reduceBEq, rmK, rm1, not_true_eq_false]
        refine C1.im (c_ref38_Check r (by omega) hr2) rfl (by rfl) ?_
        simp only [tl, tl2, isCallR, entX, argFr, ret, retI, retB, intT, unT, endR, ressR, resR, tupT, bslR, boxR, lenAll, ↓reduceIte, Nat.reduceEqDiff, Nat.reduceAdd, Nat.reduceMul, Nat.reduceLT, Nat.reduceLeDiff, reduceCtorEq, Int.reduceLE, Int.reduceLT, ne_eq, Int.reduceEq, not_false_eq_true, decide_true, decide_false, Int.reduceToNat, tl3, Int.reduceBNe, Int.reduceBEq, rmK, rm1, not_true_eq_false, bne_self_eq_false]
        refine C2.im (fun _ => c_register_InForce r (by omega) hr2) (fun _ => rfl) (by rfl) ?_
        simp only [tl, tl2, isCallR, entX, argFr, ret, retI, retB, intT, unT, endR, ressR, resR, tupT, bslR, boxR, lenAll, ↓reduceIte, Nat.reduceEqDiff, Nat.reduceAdd, Nat.reduceMul, Nat.reduceLT, Nat.reduceLeDiff, reduceCtorEq, Int.reduceLE, Int.reduceLT, ne_eq, Int.reduceEq, not_false_eq_true, decide_true, decide_false, Int.reduceToNat, tl3, Int.reduceBNe, Int.reduceBEq, rmK, rm1, not_true_eq_false]
        refine C2.im (fun _ => c_ref38_InForce r (by omega) hr2) (fun _ => rfl) (by rfl) ?_
        have hfl : (forceA r).length ≤ 60 := by
          by_cases hc0 : chkI r = 0
          · exact forceA_len hc0
          · rw [forceA, if_neg hc0]; simp
        simp only [tl, tl2, isCallR, entX, argFr, ret, retI, retB, intT, unT, endR, ressR, resR, tupT, bslR, boxR, lenAll, ↓reduceIte, Nat.reduceEqDiff, Nat.reduceAdd, Nat.reduceMul, Nat.reduceLT, Nat.reduceLeDiff, reduceCtorEq, Int.reduceLE, Int.reduceLT, ne_eq, Int.reduceEq, not_false_eq_true, decide_true, decide_false, Int.reduceToNat, tl3, Int.reduceBNe, Int.reduceBEq, rmK, rm1, not_true_eq_false]
        refine C2.im (fun _ => c_ref28_Ints (forceA r) (forceA r) (by omega) (by omega)) (fun _ => rfl) (by rfl) ?_
        simp only [tl, tl2, isCallR, entX, argFr, ret, retI, retB, intT, unT, endR, ressR, resR, tupT, bslR, boxR, lenAll, ↓reduceIte, Nat.reduceEqDiff, Nat.reduceAdd, Nat.reduceMul, Nat.reduceLT, Nat.reduceLeDiff, reduceCtorEq, Int.reduceLE, Int.reduceLT, ne_eq, Int.reduceEq, not_false_eq_true, decide_true, decide_false, Int.reduceToNat, tl3, Int.reduceBNe, Int.reduceBEq, rmK, rm1, not_true_eq_false, ints_true]
        refine C1.im (c_draw_Mod out 9 (by omega)) rfl (by rfl) ?_
        simp only [tl, tl2, isCallR, entX, argFr, ret, retI, retB, intT, unT, endR, ressR, resR, tupT, bslR, boxR, lenAll, ↓reduceIte, Nat.reduceEqDiff, Nat.reduceAdd, Nat.reduceMul, Nat.reduceLT, Nat.reduceLeDiff, reduceCtorEq, Int.reduceLE, Int.reduceLT, ne_eq, Int.reduceEq, not_false_eq_true, decide_true, decide_false, Int.reduceToNat, tl3, Int.reduceBNe, Int.reduceBEq, rmK, rm1, not_true_eq_false]
        obtain ⟨ns, hns⟩ : ∃ ns, ns = [out, modI out 9] := ⟨_, rfl⟩
        have hnl : ns.length = 2 := by rw [hns]; rfl
        refine W_loopF mixm (α := Nat) [210, 212] (fun n => n ≤ 2) (fun n => [(210, vIs ns), (212, vI n)]) (fun n => [(139276, .arr 1 (rs.map vEs) false)]) (fun n => 2 - n) 0 (by omega) ?_ fun n hn => ?_
        · refine .of [(139276, some 139276)] [159756] rfl (by first | rfl | (rw [hst]; rfl)) ?_ ?_
          all_goals (try simp only [ltSto, ltO2, ltO1, ltAs, ltA, ltC, ltCs, ltT, ltFr, ltS, wrOk, wrO, TL.get, hasFr, ↓reduceIte, Nat.reduceEqDiff, reduceCtorEq, Option.getD_some, Option.isSome_some, List.length_map, List.length_append, List.length_cons, List.length_nil, List.append_nil, List.mem_singleton, List.mem_cons, List.not_mem_nil, and_true, true_and, and_self, imp_self, forall_const, false_implies, implies_true, true_implies, or_false, Bool.false_eq_true, Bool.true_eq_false, ImXs_nil, true_or, or_true, false_or, false_and, and_false, rmK, rm1, List.map_append, List.map_cons, List.map_nil, List.cons_append, List.nil_append, hns, ltS])
          all_goals (try (repeat' (first
              | exact ltXs_nil
              | (apply ltXs_map; intro _; exact ⟨rfl, rfl⟩)
              | (apply imXs_map; intro _; exact ⟨rfl, rfl⟩)
              | with_reducible apply imXs_append
              | with_reducible refine imXs_cons ⟨rfl, rfl⟩ ?_
              | exact imXs_nil
              | with_reducible apply ltXs_append
              | with_reducible refine ltXs_cons ⟨rfl, rfl, ?_⟩ ?_
              | with_reducible apply And.intro
              | exact ltCs_im rfl
              | exact ltCs_im (by assumption)
              | (refine ⟨⟨?_, rfl, ?_, rfl, ?_⟩, trivial⟩ <;> first | (simp; done) | (apply imXs_map; intro _; exact ⟨rfl, rfl⟩))
              | trivial
              | rfl
              | (rw [i64_succ (by omega)])
              | omega)))
        simp only [tl, tl2, isCallR, entX, argFr, ret, retI, retB, intT, unT, endR, ressR, resR, tupT, bslR, boxR, lenAll, ↓reduceIte, Nat.reduceEqDiff, Nat.reduceAdd, Nat.reduceMul, Nat.reduceLT, Nat.reduceLeDiff, reduceCtorEq, Int.reduceLE, Int.reduceLT, ne_eq, Int.reduceEq, not_false_eq_true, decide_true, decide_false, Int.reduceToNat, tl3, Int.reduceBNe, Int.reduceBEq, rmK, rm1, not_true_eq_false, decide_eq_true_eq, decide_eq_false_iff_not]
        refine ⟨fun h => ?_, fun h => ?_⟩
        · have hn3 : n < ns.length := by omega
          have hwn := i64_succ (i := n) (by omega)
          simp only [tl, tl2, isCallR, entX, argFr, ret, retI, retB, intT, unT, endR, ressR, resR, tupT, bslR, boxR, lenAll, ↓reduceIte, Nat.reduceEqDiff, Nat.reduceAdd, Nat.reduceMul, Nat.reduceLT, Nat.reduceLeDiff, reduceCtorEq, Int.reduceLE, Int.reduceLT, ne_eq, Int.reduceEq, not_false_eq_true, decide_true, decide_false, Int.reduceToNat, tl3, Int.reduceBNe, Int.reduceBEq, rmK, rm1, not_true_eq_false, Int.toNat_natCast, getD_mapT hn3, hnl]
          refine ⟨by omega, ?_⟩
          obtain ⟨N, hN⟩ : ∃ N, N = ns[n] := ⟨_, rfl⟩
          rw [← hN]
          refine C1.im (c_draw_Mod of_ 9 (by omega)) rfl (by rfl) ?_
          simp only [tl, tl2, isCallR, entX, argFr, ret, retI, retB, intT, unT, endR, ressR, resR, tupT, bslR, boxR, lenAll, ↓reduceIte, Nat.reduceEqDiff, Nat.reduceAdd, Nat.reduceMul, Nat.reduceLT, Nat.reduceLeDiff, reduceCtorEq, Int.reduceLE, Int.reduceLT, ne_eq, Int.reduceEq, not_false_eq_true, decide_true, decide_false, Int.reduceToNat, tl3, Int.reduceBNe, Int.reduceBEq, rmK, rm1, not_true_eq_false]
          obtain ⟨ms, hms⟩ : ∃ ns, ns = [of_, modI of_ 9] := ⟨_, rfl⟩
          have hml : ms.length = 2 := by rw [hms]; rfl
          refine W_loopF mixm (α := Nat) [219, 221] (fun m => m ≤ 2) (fun m => [(219, vIs ms), (221, vI m)]) (fun m => [(139276, .arr 1 (rs.map vEs) false)]) (fun m => 2 - m) 0 (by omega) ?_ fun m hm => ?_
          · refine .of [(139276, some 139276)] [172044] rfl (by first | rfl | (rw [hst]; rfl)) ?_ ?_
            all_goals (try simp only [ltSto, ltO2, ltO1, ltAs, ltA, ltC, ltCs, ltT, ltFr, ltS, wrOk, wrO, TL.get, hasFr, ↓reduceIte, Nat.reduceEqDiff, reduceCtorEq, Option.getD_some, Option.isSome_some, List.length_map, List.length_append, List.length_cons, List.length_nil, List.append_nil, List.mem_singleton, List.mem_cons, List.not_mem_nil, and_true, true_and, and_self, imp_self, forall_const, false_implies, implies_true, true_implies, or_false, Bool.false_eq_true, Bool.true_eq_false, ImXs_nil, true_or, or_true, false_or, false_and, and_false, rmK, rm1, List.map_append, List.map_cons, List.map_nil, List.cons_append, List.nil_append, hms, ltS])
            all_goals (try (repeat' (first
                | exact ltXs_nil
                | (apply ltXs_map; intro _; exact ⟨rfl, rfl⟩)
                | (apply imXs_map; intro _; exact ⟨rfl, rfl⟩)
                | with_reducible apply imXs_append
                | with_reducible refine imXs_cons ⟨rfl, rfl⟩ ?_
                | exact imXs_nil
                | with_reducible apply ltXs_append
                | with_reducible refine ltXs_cons ⟨rfl, rfl, ?_⟩ ?_
                | with_reducible apply And.intro
                | exact ltCs_im rfl
                | exact ltCs_im (by assumption)
                | (refine ⟨⟨?_, rfl, ?_, rfl, ?_⟩, trivial⟩ <;> first | (simp; done) | (apply imXs_map; intro _; exact ⟨rfl, rfl⟩))
                | trivial
                | rfl
                | (rw [i64_succ (by omega)])
                | omega)))
          simp only [tl, tl2, isCallR, entX, argFr, ret, retI, retB, intT, unT, endR, ressR, resR, tupT, bslR, boxR, lenAll, ↓reduceIte, Nat.reduceEqDiff, Nat.reduceAdd, Nat.reduceMul, Nat.reduceLT, Nat.reduceLeDiff, reduceCtorEq, Int.reduceLE, Int.reduceLT, ne_eq, Int.reduceEq, not_false_eq_true, decide_true, decide_false, Int.reduceToNat, tl3, Int.reduceBNe, Int.reduceBEq, rmK, rm1, not_true_eq_false, decide_eq_true_eq, decide_eq_false_iff_not]
          refine ⟨fun h => ?_, fun h => ?_⟩
          · have hm3 : m < ms.length := by omega
            have hwm := i64_succ (i := m) (by omega)
            simp only [tl, tl2, isCallR, entX, argFr, ret, retI, retB, intT, unT, endR, ressR, resR, tupT, bslR, boxR, lenAll, ↓reduceIte, Nat.reduceEqDiff, Nat.reduceAdd, Nat.reduceMul, Nat.reduceLT, Nat.reduceLeDiff, reduceCtorEq, Int.reduceLE, Int.reduceLT, ne_eq, Int.reduceEq, not_false_eq_true, decide_true, decide_false, Int.reduceToNat, tl3, Int.reduceBNe, Int.reduceBEq, rmK, rm1, not_true_eq_false, Int.toNat_natCast, getD_mapT hm3, hml]
            refine ⟨by omega, ?_⟩
            obtain ⟨M, hM⟩ : ∃ N, N = ms[m] := ⟨_, rfl⟩
            rw [← hM]
            refine C1.im (c_draw_Mod kind 3 (by omega)) rfl (by rfl) ?_
            have hm6 := mod_range (n := kind) (m := 3) (by omega)
            have hw6 : IntKind.i64.wrap (1 + modI kind 3) = 1 + modI kind 3 := IntWalk.i64_in _ (by omega)
            simp only [tl, tl2, isCallR, entX, argFr, ret, retI, retB, intT, unT, endR, ressR, resR, tupT, bslR, boxR, lenAll, ↓reduceIte, Nat.reduceEqDiff, Nat.reduceAdd, Nat.reduceMul, Nat.reduceLT, Nat.reduceLeDiff, reduceCtorEq, Int.reduceLE, Int.reduceLT, ne_eq, Int.reduceEq, not_false_eq_true, decide_true, decide_false, Int.reduceToNat, tl3, Int.reduceBNe, Int.reduceBEq, rmK, rm1, not_true_eq_false, hw6]
            obtain ⟨ks, hks⟩ : ∃ ns, ns = [kind, 1 + modI kind 3] := ⟨_, rfl⟩
            have hkl' : ks.length = 2 := by rw [hks]; rfl
            refine W_loopF mixm (α := Nat) [229, 231] (fun q => q ≤ 2) (fun q => [(229, vIs ks), (231, vI q)]) (fun q => [(139276, .arr 1 (rs.map vEs) false)]) (fun q => 2 - q) 0 (by omega) ?_ fun q hq => ?_
            · refine .of [(139276, some 139276)] [184336] rfl (by first | rfl | (rw [hst]; rfl)) ?_ ?_
              all_goals (try simp only [ltSto, ltO2, ltO1, ltAs, ltA, ltC, ltCs, ltT, ltFr, ltS, wrOk, wrO, TL.get, hasFr, ↓reduceIte, Nat.reduceEqDiff, reduceCtorEq, Option.getD_some, Option.isSome_some, List.length_map, List.length_append, List.length_cons, List.length_nil, List.append_nil, List.mem_singleton, List.mem_cons, List.not_mem_nil, and_true, true_and, and_self, imp_self, forall_const, false_implies, implies_true, true_implies, or_false, Bool.false_eq_true, Bool.true_eq_false, ImXs_nil, true_or, or_true, false_or, false_and, and_false, rmK, rm1, List.map_append, List.map_cons, List.map_nil, List.cons_append, List.nil_append, hks, ltS])
              all_goals (try (repeat' (first
                  | exact ltXs_nil
                  | (apply ltXs_map; intro _; exact ⟨rfl, rfl⟩)
                  | (apply imXs_map; intro _; exact ⟨rfl, rfl⟩)
                  | with_reducible apply imXs_append
                  | with_reducible refine imXs_cons ⟨rfl, rfl⟩ ?_
                  | exact imXs_nil
                  | with_reducible apply ltXs_append
                  | with_reducible refine ltXs_cons ⟨rfl, rfl, ?_⟩ ?_
                  | with_reducible apply And.intro
                  | exact ltCs_im rfl
                  | exact ltCs_im (by assumption)
                  | (refine ⟨⟨?_, rfl, ?_, rfl, ?_⟩, trivial⟩ <;> first | (simp; done) | (apply imXs_map; intro _; exact ⟨rfl, rfl⟩))
                  | trivial
                  | rfl
                  | (rw [i64_succ (by omega)])
                  | omega)))
            simp only [tl, tl2, isCallR, entX, argFr, ret, retI, retB, intT, unT, endR, ressR, resR, tupT, bslR, boxR, lenAll, ↓reduceIte, Nat.reduceEqDiff, Nat.reduceAdd, Nat.reduceMul, Nat.reduceLT, Nat.reduceLeDiff, reduceCtorEq, Int.reduceLE, Int.reduceLT, ne_eq, Int.reduceEq, not_false_eq_true, decide_true, decide_false, Int.reduceToNat, tl3, Int.reduceBNe, Int.reduceBEq, rmK, rm1, not_true_eq_false, decide_eq_true_eq, decide_eq_false_iff_not]
            refine ⟨fun h => ?_, fun h => ?_⟩
            · have hq3 : q < ks.length := by omega
              have hwq := i64_succ (i := q) (by omega)
              simp only [tl, tl2, isCallR, entX, argFr, ret, retI, retB, intT, unT, endR, ressR, resR, tupT, bslR, boxR, lenAll, ↓reduceIte, Nat.reduceEqDiff, Nat.reduceAdd, Nat.reduceMul, Nat.reduceLT, Nat.reduceLeDiff, reduceCtorEq, Int.reduceLE, Int.reduceLT, ne_eq, Int.reduceEq, not_false_eq_true, decide_true, decide_false, Int.reduceToNat, tl3, Int.reduceBNe, Int.reduceBEq, rmK, rm1, not_true_eq_false, Int.toNat_natCast, getD_mapT hq3, hkl']
              refine ⟨by omega, ?_⟩
              refine C1.im (c_register_Add r ks[q] M N text (by omega) hr2) rfl (by rfl) ?_
              simp only [tl, tl2, isCallR, entX, argFr, ret, retI, retB, intT, unT, endR, ressR, resR, tupT, bslR, boxR, lenAll, ↓reduceIte, Nat.reduceEqDiff, Nat.reduceAdd, Nat.reduceMul, Nat.reduceLT, Nat.reduceLeDiff, reduceCtorEq, Int.reduceLE, Int.reduceLT, ne_eq, Int.reduceEq, not_false_eq_true, decide_true, decide_false, Int.reduceToNat, tl3, Int.reduceBNe, Int.reduceBEq, rmK, rm1, not_true_eq_false]
              refine C1.im (c_ref38_Add r ks[q] M N text (by omega) hr2) rfl (by rfl) ?_
              simp only [tl, tl2, isCallR, entX, argFr, ret, retI, retB, intT, unT, endR, ressR, resR, tupT, bslR, boxR, lenAll, ↓reduceIte, Nat.reduceEqDiff, Nat.reduceAdd, Nat.reduceMul, Nat.reduceLT, Nat.reduceLeDiff, reduceCtorEq, Int.reduceLE, Int.reduceLT, ne_eq, Int.reduceEq, not_false_eq_true, decide_true, decide_false, Int.reduceToNat, tl3, Int.reduceBNe, Int.reduceBEq, rmK, rm1, not_true_eq_false]
              have hal : (addA r ks[q] M N text).1.length ≤ 21 := by
                unfold addA
                split
                · simp only; omega
                · split
                  · simp only; omega
                  · split
                    · simp only; omega
                    · simp; omega
              refine C1.im (c_ref38_Same _ _ (by omega) (by omega)) rfl (by rfl) ?_
              simp only [tl, tl2, isCallR, entX, argFr, ret, retI, retB, intT, unT, endR, ressR, resR, tupT, bslR, boxR, lenAll, ↓reduceIte, Nat.reduceEqDiff, Nat.reduceAdd, Nat.reduceMul, Nat.reduceLT, Nat.reduceLeDiff, reduceCtorEq, Int.reduceLE, Int.reduceLT, ne_eq, Int.reduceEq, not_false_eq_true, decide_true, decide_false, Int.reduceToNat, tl3, Int.reduceBNe, Int.reduceBEq, rmK, rm1, not_true_eq_false, same_true, bne_self_eq_false]
              refine ⟨q + 1, by omega, by omega, ?_⟩
              refine .of [(139276, some 139276)] [] rfl (by first | rfl | (rw [hst]; rfl)) ?_ ?_
              all_goals (try simp only [ltSto, ltO2, ltO1, ltAs, ltA, ltC, ltCs, ltT, ltFr, ltS, wrOk, wrO, TL.get, hasFr, ↓reduceIte, Nat.reduceEqDiff, reduceCtorEq, Option.getD_some, Option.isSome_some, List.length_map, List.length_append, List.length_cons, List.length_nil, List.append_nil, List.mem_singleton, List.mem_cons, List.not_mem_nil, and_true, true_and, and_self, imp_self, forall_const, false_implies, implies_true, true_implies, or_false, Bool.false_eq_true, Bool.true_eq_false, ImXs_nil, true_or, or_true, false_or, false_and, and_false, rmK, rm1, List.map_append, List.map_cons, List.map_nil, List.cons_append, List.nil_append])
              all_goals (try (repeat' (first
                  | exact ltXs_nil
                  | (apply ltXs_map; intro _; exact ⟨rfl, rfl⟩)
                  | (apply imXs_map; intro _; exact ⟨rfl, rfl⟩)
                  | with_reducible apply imXs_append
                  | with_reducible refine imXs_cons ⟨rfl, rfl⟩ ?_
                  | exact imXs_nil
                  | with_reducible apply ltXs_append
                  | with_reducible refine ltXs_cons ⟨rfl, rfl, ?_⟩ ?_
                  | with_reducible apply And.intro
                  | exact ltCs_im rfl
                  | exact ltCs_im (by assumption)
                  | (refine ⟨⟨?_, rfl, ?_, rfl, ?_⟩, trivial⟩ <;> first | (simp; done) | (apply imXs_map; intro _; exact ⟨rfl, rfl⟩))
                  | trivial
                  | rfl
                  | (rw [i64_succ (by omega)])
                  | omega)))
            · refine C1.im (c_register_History r M (by omega) hr2) rfl (by rfl) ?_
              simp only [tl, tl2, isCallR, entX, argFr, ret, retI, retB, intT, unT, endR, ressR, resR, tupT, bslR, boxR, lenAll, ↓reduceIte, Nat.reduceEqDiff, Nat.reduceAdd, Nat.reduceMul, Nat.reduceLT, Nat.reduceLeDiff, reduceCtorEq, Int.reduceLE, Int.reduceLT, ne_eq, Int.reduceEq, not_false_eq_true, decide_true, decide_false, Int.reduceToNat, tl3, Int.reduceBNe, Int.reduceBEq, rmK, rm1, not_true_eq_false]
              refine C1.im (c_ref38_History r M (by omega) hr2) rfl (by rfl) ?_
              simp only [tl, tl2, isCallR, entX, argFr, ret, retI, retB, intT, unT, endR, ressR, resR, tupT, bslR, boxR, lenAll, ↓reduceIte, Nat.reduceEqDiff, Nat.reduceAdd, Nat.reduceMul, Nat.reduceLT, Nat.reduceLeDiff, reduceCtorEq, Int.reduceLE, Int.reduceLT, ne_eq, Int.reduceEq, not_false_eq_true, decide_true, decide_false, Int.reduceToNat, tl3, Int.reduceBNe, Int.reduceBEq, rmK, rm1, not_true_eq_false]
              have hhl : (histA r M).1.length < 4611686018427387904 := by
                unfold histA
                split
                · simp
                · split
                  · simp
                  · have := hist_len (l := r) M.toNat M.toNat
                    simp only [histN]
                    omega
              refine C1.im (c_ref28_Ints _ _ hhl hhl) rfl (by rfl) ?_
              simp only [tl, tl2, isCallR, entX, argFr, ret, retI, retB, intT, unT, endR, ressR, resR, tupT, bslR, boxR, lenAll, ↓reduceIte, Nat.reduceEqDiff, Nat.reduceAdd, Nat.reduceMul, Nat.reduceLT, Nat.reduceLeDiff, reduceCtorEq, Int.reduceLE, Int.reduceLT, ne_eq, Int.reduceEq, not_false_eq_true, decide_true, decide_false, Int.reduceToNat, tl3, Int.reduceBNe, Int.reduceBEq, rmK, rm1, not_true_eq_false, ints_true, bne_self_eq_false]
              refine ⟨m + 1, by omega, by omega, ?_⟩
              refine .of [(139276, some 139276)] [] rfl (by first | rfl | (rw [hst]; rfl)) ?_ ?_
              all_goals (try simp only [ltSto, ltO2, ltO1, ltAs, ltA, ltC, ltCs, ltT, ltFr, ltS, wrOk, wrO, TL.get, hasFr, ↓reduceIte, Nat.reduceEqDiff, reduceCtorEq, Option.getD_some, Option.isSome_some, List.length_map, List.length_append, List.length_cons, List.length_nil, List.append_nil, List.mem_singleton, List.mem_cons, List.not_mem_nil, and_true, true_and, and_self, imp_self, forall_const, false_implies, implies_true, true_implies, or_false, Bool.false_eq_true, Bool.true_eq_false, ImXs_nil, true_or, or_true, false_or, false_and, and_false, rmK, rm1, List.map_append, List.map_cons, List.map_nil, List.cons_append, List.nil_append])
              all_goals (try (repeat' (first
                  | exact ltXs_nil
                  | (apply ltXs_map; intro _; exact ⟨rfl, rfl⟩)
                  | (apply imXs_map; intro _; exact ⟨rfl, rfl⟩)
                  | with_reducible apply imXs_append
                  | with_reducible refine imXs_cons ⟨rfl, rfl⟩ ?_
                  | exact imXs_nil
                  | with_reducible apply ltXs_append
                  | with_reducible refine ltXs_cons ⟨rfl, rfl, ?_⟩ ?_
                  | with_reducible apply And.intro
                  | exact ltCs_im rfl
                  | exact ltCs_im (by assumption)
                  | (refine ⟨⟨?_, rfl, ?_, rfl, ?_⟩, trivial⟩ <;> first | (simp; done) | (apply imXs_map; intro _; exact ⟨rfl, rfl⟩))
                  | trivial
                  | rfl
                  | (rw [i64_succ (by omega)])
                  | omega)))
          · refine C1.im (c_register_Find r N (by omega) hr2) rfl (by rfl) ?_
            simp only [tl, tl2, isCallR, entX, argFr, ret, retI, retB, intT, unT, endR, ressR, resR, tupT, bslR, boxR, lenAll, ↓reduceIte, Nat.reduceEqDiff, Nat.reduceAdd, Nat.reduceMul, Nat.reduceLT, Nat.reduceLeDiff, reduceCtorEq, Int.reduceLE, Int.reduceLT, ne_eq, Int.reduceEq, not_false_eq_true, decide_true, decide_false, Int.reduceToNat, tl3, Int.reduceBNe, Int.reduceBEq, rmK, rm1, not_true_eq_false]
            refine C1.im (c_ref38_Find r N (by omega) hr2) rfl (by rfl) ?_
            simp only [tl, tl2, isCallR, entX, argFr, ret, retI, retB, intT, unT, endR, ressR, resR, tupT, bslR, boxR, lenAll, ↓reduceIte, Nat.reduceEqDiff, Nat.reduceAdd, Nat.reduceMul, Nat.reduceLT, Nat.reduceLeDiff, reduceCtorEq, Int.reduceLE, Int.reduceLT, ne_eq, Int.reduceEq, not_false_eq_true, decide_true, decide_false, Int.reduceToNat, tl3, Int.reduceBNe, Int.reduceBEq, rmK, rm1, not_true_eq_false, bne_self_eq_false]
            refine ⟨n + 1, by omega, by omega, ?_⟩
            refine .of [(139276, some 139276)] [] rfl (by first | rfl | (rw [hst]; rfl)) ?_ ?_
            all_goals (try simp only [ltSto, ltO2, ltO1, ltAs, ltA, ltC, ltCs, ltT, ltFr, ltS, wrOk, wrO, TL.get, hasFr, ↓reduceIte, Nat.reduceEqDiff, reduceCtorEq, Option.getD_some, Option.isSome_some, List.length_map, List.length_append, List.length_cons, List.length_nil, List.append_nil, List.mem_singleton, List.mem_cons, List.not_mem_nil, and_true, true_and, and_self, imp_self, forall_const, false_implies, implies_true, true_implies, or_false, Bool.false_eq_true, Bool.true_eq_false, ImXs_nil, true_or, or_true, false_or, false_and, and_false, rmK, rm1, List.map_append, List.map_cons, List.map_nil, List.cons_append, List.nil_append])
            all_goals (try (repeat' (first
                | exact ltXs_nil
                | (apply ltXs_map; intro _; exact ⟨rfl, rfl⟩)
                | (apply imXs_map; intro _; exact ⟨rfl, rfl⟩)
                | with_reducible apply imXs_append
                | with_reducible refine imXs_cons ⟨rfl, rfl⟩ ?_
                | exact imXs_nil
                | with_reducible apply ltXs_append
                | with_reducible refine ltXs_cons ⟨rfl, rfl, ?_⟩ ?_
                | with_reducible apply And.intro
                | exact ltCs_im rfl
                | exact ltCs_im (by assumption)
                | (refine ⟨⟨?_, rfl, ?_, rfl, ?_⟩, trivial⟩ <;> first | (simp; done) | (apply imXs_map; intro _; exact ⟨rfl, rfl⟩))
                | trivial
                | rfl
                | (rw [i64_succ (by omega)])
                | omega)))
        · refine ⟨a + 1, by omega, by omega, ?_⟩
          refine .of [(139276, some 139276)] [] rfl (by first | rfl | (rw [hst]; rfl)) ?_ ?_
          all_goals (try simp only [ltSto, ltO2, ltO1, ltAs, ltA, ltC, ltCs, ltT, ltFr, ltS, wrOk, wrO, TL.get, hasFr, ↓reduceIte, Nat.reduceEqDiff, reduceCtorEq, Option.getD_some, Option.isSome_some, List.length_map, List.length_append, List.length_cons, List.length_nil, List.append_nil, List.mem_singleton, List.mem_cons, List.not_mem_nil, and_true, true_and, and_self, imp_self, forall_const, false_implies, implies_true, true_implies, or_false, Bool.false_eq_true, Bool.true_eq_false, ImXs_nil, true_or, or_true, false_or, false_and, and_false, rmK, rm1, List.map_append, List.map_cons, List.map_nil, List.cons_append, List.nil_append])
          all_goals (try (repeat' (first
              | exact ltXs_nil
              | (apply ltXs_map; intro _; exact ⟨rfl, rfl⟩)
              | (apply imXs_map; intro _; exact ⟨rfl, rfl⟩)
              | with_reducible apply imXs_append
              | with_reducible refine imXs_cons ⟨rfl, rfl⟩ ?_
              | exact imXs_nil
              | with_reducible apply ltXs_append
              | with_reducible refine ltXs_cons ⟨rfl, rfl, ?_⟩ ?_
              | with_reducible apply And.intro
              | exact ltCs_im rfl
              | exact ltCs_im (by assumption)
              | (refine ⟨⟨?_, rfl, ?_, rfl, ?_⟩, trivial⟩ <;> first | (simp; done) | (apply imXs_map; intro _; exact ⟨rfl, rfl⟩))
              | trivial
              | rfl
              | (rw [i64_succ (by omega)])
              | omega)))
      · refine C1.im c_law38_awake rfl (by rfl) ?_
        simp only [tl, tl2, isCallR, entX, argFr, ret, retI, retB, intT, unT, endR, ressR, resR, tupT, bslR, boxR, lenAll, ↓reduceIte, Nat.reduceEqDiff, Nat.reduceAdd, Nat.reduceMul, Nat.reduceLT, Nat.reduceLeDiff, reduceCtorEq, Int.reduceLE, Int.reduceLT, ne_eq, Int.reduceEq, not_false_eq_true, decide_true, decide_false, Int.reduceToNat, tl3, Int.reduceBNe, Int.reduceBEq, rmK, rm1, not_true_eq_false]
        exact .imR rfl rfl
    · refine ⟨by omega, by omega, ?_⟩
      obtain ⟨odd, ho⟩ : ∃ o, o = L.set k { L[k] with of_ := of_ } := ⟨_, rfl⟩
      rw [← List.map_set, ← ho]
      have hol : odd.length ≤ 8 := by rw [ho, List.length_set]; omega
      have hos : small odd := by rw [ho]; exact set_small hsm (by show L[k].text.size ≤ 1000000000; omega)
      have hoL : L.length = odd.length := by rw [ho, List.length_set]
      rw [hoL]
      clear ho
      refine C1.im (c_register_Sum b (by omega)) rfl (by rfl) ?_
      simp only [tl, tl2, isCallR, entX, argFr, ret, retI, retB, intT, unT, endR, ressR, resR, tupT, bslR, boxR, lenAll, ↓reduceIte, Nat.reduceEqDiff, Nat.reduceAdd, Nat.reduceMul, Nat.reduceLT, Nat.reduceLeDiff, reduceCtorEq, Int.reduceLE, Int.reduceLT, ne_eq, Int.reduceEq, not_false_eq_true, decide_true, decide_false, Int.reduceToNat, tl3, Int.reduceBNe, Int.reduceBEq, rmK, rm1, not_true_eq_false]
      refine C1.im (c_ref38_Sum b (by omega)) rfl (by rfl) ?_
      simp only [tl, tl2, isCallR, entX, argFr, ret, retI, retB, intT, unT, endR, ressR, resR, tupT, bslR, boxR, lenAll, ↓reduceIte, Nat.reduceEqDiff, Nat.reduceAdd, Nat.reduceMul, Nat.reduceLT, Nat.reduceLeDiff, reduceCtorEq, Int.reduceLE, Int.reduceLT, ne_eq, Int.reduceEq, not_false_eq_true, decide_true, decide_false, Int.reduceToNat, tl3, Int.reduceBNe, Int.reduceBEq, rmK, rm1, not_true_eq_false, bne_self_eq_false, entT]
      refine C2.im (fun _ => c_register_Link x (by omega)) (fun _ => rfl) (by rfl) ?_
      simp only [tl, tl2, isCallR, entX, argFr, ret, retI, retB, intT, unT, endR, ressR, resR, tupT, bslR, boxR, lenAll, ↓reduceIte, Nat.reduceEqDiff, Nat.reduceAdd, Nat.reduceMul, Nat.reduceLT, Nat.reduceLeDiff, reduceCtorEq, Int.reduceLE, Int.reduceLT, ne_eq, Int.reduceEq, not_false_eq_true, decide_true, decide_false, Int.reduceToNat, tl3, Int.reduceBNe, Int.reduceBEq, rmK, rm1, not_true_eq_false]
      refine C2.im (fun _ => c_ref38_Link x (by omega)) (fun _ => rfl) (by rfl) ?_
      simp only [tl, tl2, isCallR, entX, argFr, ret, retI, retB, intT, unT, endR, ressR, resR, tupT, bslR, boxR, lenAll, ↓reduceIte, Nat.reduceEqDiff, Nat.reduceAdd, Nat.reduceMul, Nat.reduceLT, Nat.reduceLeDiff, reduceCtorEq, Int.reduceLE, Int.reduceLT, ne_eq, Int.reduceEq, not_false_eq_true, decide_true, decide_false, Int.reduceToNat, tl3, Int.reduceBNe, Int.reduceBEq, rmK, rm1, not_true_eq_false, bne_self_eq_false]
      refine ⟨by kernel_rfl, ?_⟩
      obtain ⟨rs, hrs2⟩ : ∃ rs, rs = [raw, L, odd] := ⟨_, rfl⟩
      have hrl : rs.length = 3 := by rw [hrs2]; rfl
      have hrsa : ∀ r ∈ rs, r.length ≤ 20 ∧ small r := by
        intro r hr
        rw [hrs2] at hr
        simp only [List.mem_cons, List.not_mem_nil, or_false] at hr
        rcases hr with rfl | rfl | rfl
        · exact ⟨by omega, hraws⟩
        · exact ⟨by omega, hsm⟩
        · exact ⟨by omega, hos⟩
      refine W_loopF mixm (α := Nat) [190] (fun a => a ≤ 3) (fun a => [(190, vI a)]) (fun a => [(139276, .arr 1 (rs.map vEs) false)]) (fun a => 3 - a) 0 (by omega) ?_ fun a ha => ?_
      · refine .of [(139276, some 139276)] [49152] rfl (by first | rfl | (rw [hst]; rfl)) ?_ ?_
        all_goals (try simp only [ltSto, ltO2, ltO1, ltAs, ltA, ltC, ltCs, ltT, ltFr, ltS, wrOk, wrO, TL.get, hasFr, ↓reduceIte, Nat.reduceEqDiff, reduceCtorEq, Option.getD_some, Option.isSome_some, List.length_map, List.length_append, List.length_cons, List.length_nil, List.append_nil, List.mem_singleton, List.mem_cons, List.not_mem_nil, and_true, true_and, and_self, imp_self, forall_const, false_implies, implies_true, true_implies, or_false, Bool.false_eq_true, Bool.true_eq_false, ImXs_nil, true_or, or_true, false_or, false_and, and_false, rmK, rm1, List.map_append, List.map_cons, List.map_nil, List.cons_append, List.nil_append, hrs2, ltS, List.length_map])
        all_goals (try (repeat' (first
            | exact ltXs_nil
            | (apply ltXs_map; intro _; exact ⟨rfl, rfl⟩)
            | (apply imXs_map; intro _; exact ⟨rfl, rfl⟩)
            | with_reducible apply imXs_append
            | with_reducible refine imXs_cons ⟨rfl, rfl⟩ ?_
            | exact imXs_nil
            | with_reducible apply ltXs_append
            | with_reducible refine ltXs_cons ⟨rfl, rfl, ?_⟩ ?_
            | with_reducible apply And.intro
            | exact ltCs_im rfl
            | exact ltCs_im (by assumption)
            | (refine ⟨⟨?_, rfl, ?_, rfl, ?_⟩, trivial⟩ <;> first | (simp; done) | (apply imXs_map; intro _; exact ⟨rfl, rfl⟩))
            | trivial
            | rfl
            | (rw [i64_succ (by omega)])
            | omega)))
      simp only [tl, tl2, isCallR, entX, argFr, ret, retI, retB, intT, unT, endR, ressR, resR, tupT, bslR, boxR, lenAll, ↓reduceIte, Nat.reduceEqDiff, Nat.reduceAdd, Nat.reduceMul, Nat.reduceLT, Nat.reduceLeDiff, reduceCtorEq, Int.reduceLE, Int.reduceLT, ne_eq, Int.reduceEq, not_false_eq_true, decide_true, decide_false, Int.reduceToNat, tl3, Int.reduceBNe, Int.reduceBEq, rmK, rm1, not_true_eq_false, decide_eq_true_eq, decide_eq_false_iff_not]
      refine ⟨fun h => ?_, fun h => ?_⟩
      · have ha3 : a < rs.length := by omega
        obtain ⟨hr1, hr2⟩ := hrsa rs[a] (List.getElem_mem _)
        have hwa := i64_succ (i := a) (by omega)
        simp only [tl, tl2, isCallR, entX, argFr, ret, retI, retB, intT, unT, endR, ressR, resR, tupT, bslR, boxR, lenAll, ↓reduceIte, Nat.reduceEqDiff, Nat.reduceAdd, Nat.reduceMul, Nat.reduceLT, Nat.reduceLeDiff, reduceCtorEq, Int.reduceLE, Int.reduceLT, ne_eq, Int.reduceEq, not_false_eq_true, decide_true, decide_false, Int.reduceToNat, tl3, Int.reduceBNe, Int.reduceBEq, rmK, rm1, not_true_eq_false, Int.toNat_natCast, getD_mapT ha3, hrl, List.length_map]
        refine ⟨by omega, by omega, ?_⟩
        obtain ⟨r, hr⟩ : ∃ r, r = rs[a] := ⟨_, rfl⟩
        rw [← hr] at hr1 hr2 ⊢
        refine C1.im (c_register_Check r (by omega) hr2) rfl (by rfl) ?_
        simp only [tl, tl2, isCallR, entX, argFr, ret, retI, retB, intT, unT, endR, ressR, resR, tupT, bslR, boxR, lenAll, ↓reduceIte, Nat.reduceEqDiff, Nat.reduceAdd, Nat.reduceMul, Nat.reduceLT, Nat.reduceLeDiff, reduceCtorEq, Int.reduceLE, Int.reduceLT, ne_eq, Int.reduceEq, not_false_eq_true, decide_true, decide_false, Int.reduceToNat, tl3, Int.reduceBNe, Int.reduceBEq, rmK, rm1, not_true_eq_false]
        refine C1.im (c_ref38_Check r (by omega) hr2) rfl (by rfl) ?_
        simp only [tl, tl2, isCallR, entX, argFr, ret, retI, retB, intT, unT, endR, ressR, resR, tupT, bslR, boxR, lenAll, ↓reduceIte, Nat.reduceEqDiff, Nat.reduceAdd, Nat.reduceMul, Nat.reduceLT, Nat.reduceLeDiff, reduceCtorEq, Int.reduceLE, Int.reduceLT, ne_eq, Int.reduceEq, not_false_eq_true, decide_true, decide_false, Int.reduceToNat, tl3, Int.reduceBNe, Int.reduceBEq, rmK, rm1, not_true_eq_false, bne_self_eq_false]
        refine C2.im (fun _ => c_register_InForce r (by omega) hr2) (fun _ => rfl) (by rfl) ?_
        simp only [tl, tl2, isCallR, entX, argFr, ret, retI, retB, intT, unT, endR, ressR, resR, tupT, bslR, boxR, lenAll, ↓reduceIte, Nat.reduceEqDiff, Nat.reduceAdd, Nat.reduceMul, Nat.reduceLT, Nat.reduceLeDiff, reduceCtorEq, Int.reduceLE, Int.reduceLT, ne_eq, Int.reduceEq, not_false_eq_true, decide_true, decide_false, Int.reduceToNat, tl3, Int.reduceBNe, Int.reduceBEq, rmK, rm1, not_true_eq_false]
        refine C2.im (fun _ => c_ref38_InForce r (by omega) hr2) (fun _ => rfl) (by rfl) ?_
        have hfl : (forceA r).length ≤ 60 := by
          by_cases hc0 : chkI r = 0
          · exact forceA_len hc0
          · rw [forceA, if_neg hc0]; simp
        simp only [tl, tl2, isCallR, entX, argFr, ret, retI, retB, intT, unT, endR, ressR, resR, tupT, bslR, boxR, lenAll, ↓reduceIte, Nat.reduceEqDiff, Nat.reduceAdd, Nat.reduceMul, Nat.reduceLT, Nat.reduceLeDiff, reduceCtorEq, Int.reduceLE, Int.reduceLT, ne_eq, Int.reduceEq, not_false_eq_true, decide_true, decide_false, Int.reduceToNat, tl3, Int.reduceBNe, Int.reduceBEq, rmK, rm1, not_true_eq_false]
        refine C2.im (fun _ => c_ref28_Ints (forceA r) (forceA r) (by omega) (by omega)) (fun _ => rfl) (by rfl) ?_
        simp only [tl, tl2, isCallR, entX, argFr, ret, retI, retB, intT, unT, endR, ressR, resR, tupT, bslR, boxR, lenAll, ↓reduceIte, Nat.reduceEqDiff, Nat.reduceAdd, Nat.reduceMul, Nat.reduceLT, Nat.reduceLeDiff, reduceCtorEq, Int.reduceLE, Int.reduceLT, ne_eq, Int.reduceEq, not_false_eq_true, decide_true, decide_false, Int.reduceToNat, tl3, Int.reduceBNe, Int.reduceBEq, rmK, rm1, not_true_eq_false, ints_true]
        refine C1.im (c_draw_Mod out 9 (by omega)) rfl (by rfl) ?_
        simp only [tl, tl2, isCallR, entX, argFr, ret, retI, retB, intT, unT, endR, ressR, resR, tupT, bslR, boxR, lenAll, ↓reduceIte, Nat.reduceEqDiff, Nat.reduceAdd, Nat.reduceMul, Nat.reduceLT, Nat.reduceLeDiff, reduceCtorEq, Int.reduceLE, Int.reduceLT, ne_eq, Int.reduceEq, not_false_eq_true, decide_true, decide_false, Int.reduceToNat, tl3, Int.reduceBNe, Int.reduceBEq, rmK, rm1, not_true_eq_false]
        obtain ⟨ns, hns⟩ : ∃ ns, ns = [out, modI out 9] := ⟨_, rfl⟩
        have hnl : ns.length = 2 := by rw [hns]; rfl
        refine W_loopF mixm (α := Nat) [210, 212] (fun n => n ≤ 2) (fun n => [(210, vIs ns), (212, vI n)]) (fun n => [(139276, .arr 1 (rs.map vEs) false)]) (fun n => 2 - n) 0 (by omega) ?_ fun n hn => ?_
        · refine .of [(139276, some 139276)] [159756] rfl (by first | rfl | (rw [hst]; rfl)) ?_ ?_
          all_goals (try simp only [ltSto, ltO2, ltO1, ltAs, ltA, ltC, ltCs, ltT, ltFr, ltS, wrOk, wrO, TL.get, hasFr, ↓reduceIte, Nat.reduceEqDiff, reduceCtorEq, Option.getD_some, Option.isSome_some, List.length_map, List.length_append, List.length_cons, List.length_nil, List.append_nil, List.mem_singleton, List.mem_cons, List.not_mem_nil, and_true, true_and, and_self, imp_self, forall_const, false_implies, implies_true, true_implies, or_false, Bool.false_eq_true, Bool.true_eq_false, ImXs_nil, true_or, or_true, false_or, false_and, and_false, rmK, rm1, List.map_append, List.map_cons, List.map_nil, List.cons_append, List.nil_append, hns, ltS])
          all_goals (try (repeat' (first
              | exact ltXs_nil
              | (apply ltXs_map; intro _; exact ⟨rfl, rfl⟩)
              | (apply imXs_map; intro _; exact ⟨rfl, rfl⟩)
              | with_reducible apply imXs_append
              | with_reducible refine imXs_cons ⟨rfl, rfl⟩ ?_
              | exact imXs_nil
              | with_reducible apply ltXs_append
              | with_reducible refine ltXs_cons ⟨rfl, rfl, ?_⟩ ?_
              | with_reducible apply And.intro
              | exact ltCs_im rfl
              | exact ltCs_im (by assumption)
              | (refine ⟨⟨?_, rfl, ?_, rfl, ?_⟩, trivial⟩ <;> first | (simp; done) | (apply imXs_map; intro _; exact ⟨rfl, rfl⟩))
              | trivial
              | rfl
              | (rw [i64_succ (by omega)])
              | omega)))
        simp only [tl, tl2, isCallR, entX, argFr, ret, retI, retB, intT, unT, endR, ressR, resR, tupT, bslR, boxR, lenAll, ↓reduceIte, Nat.reduceEqDiff, Nat.reduceAdd, Nat.reduceMul, Nat.reduceLT, Nat.reduceLeDiff, reduceCtorEq, Int.reduceLE, Int.reduceLT, ne_eq, Int.reduceEq, not_false_eq_true, decide_true, decide_false, Int.reduceToNat, tl3, Int.reduceBNe, Int.reduceBEq, rmK, rm1, not_true_eq_false, decide_eq_true_eq, decide_eq_false_iff_not]
        refine ⟨fun h => ?_, fun h => ?_⟩
        · have hn3 : n < ns.length := by omega
          have hwn := i64_succ (i := n) (by omega)
          simp only [tl, tl2, isCallR, entX, argFr, ret, retI, retB, intT, unT, endR, ressR, resR, tupT, bslR, boxR, lenAll, ↓reduceIte, Nat.reduceEqDiff, Nat.reduceAdd, Nat.reduceMul, Nat.reduceLT, Nat.reduceLeDiff, reduceCtorEq, Int.reduceLE, Int.reduceLT, ne_eq, Int.reduceEq, not_false_eq_true, decide_true, decide_false, Int.reduceToNat, tl3, Int.reduceBNe, Int.reduceBEq, rmK, rm1, not_true_eq_false, Int.toNat_natCast, getD_mapT hn3, hnl]
          refine ⟨by omega, ?_⟩
          obtain ⟨N, hN⟩ : ∃ N, N = ns[n] := ⟨_, rfl⟩
          rw [← hN]
          refine C1.im (c_draw_Mod of_ 9 (by omega)) rfl (by rfl) ?_
          simp only [tl, tl2, isCallR, entX, argFr, ret, retI, retB, intT, unT, endR, ressR, resR, tupT, bslR, boxR, lenAll, ↓reduceIte, Nat.reduceEqDiff, Nat.reduceAdd, Nat.reduceMul, Nat.reduceLT, Nat.reduceLeDiff, reduceCtorEq, Int.reduceLE, Int.reduceLT, ne_eq, Int.reduceEq, not_false_eq_true, decide_true, decide_false, Int.reduceToNat, tl3, Int.reduceBNe, Int.reduceBEq, rmK, rm1, not_true_eq_false]
          obtain ⟨ms, hms⟩ : ∃ ns, ns = [of_, modI of_ 9] := ⟨_, rfl⟩
          have hml : ms.length = 2 := by rw [hms]; rfl
          refine W_loopF mixm (α := Nat) [219, 221] (fun m => m ≤ 2) (fun m => [(219, vIs ms), (221, vI m)]) (fun m => [(139276, .arr 1 (rs.map vEs) false)]) (fun m => 2 - m) 0 (by omega) ?_ fun m hm => ?_
          · refine .of [(139276, some 139276)] [172044] rfl (by first | rfl | (rw [hst]; rfl)) ?_ ?_
            all_goals (try simp only [ltSto, ltO2, ltO1, ltAs, ltA, ltC, ltCs, ltT, ltFr, ltS, wrOk, wrO, TL.get, hasFr, ↓reduceIte, Nat.reduceEqDiff, reduceCtorEq, Option.getD_some, Option.isSome_some, List.length_map, List.length_append, List.length_cons, List.length_nil, List.append_nil, List.mem_singleton, List.mem_cons, List.not_mem_nil, and_true, true_and, and_self, imp_self, forall_const, false_implies, implies_true, true_implies, or_false, Bool.false_eq_true, Bool.true_eq_false, ImXs_nil, true_or, or_true, false_or, false_and, and_false, rmK, rm1, List.map_append, List.map_cons, List.map_nil, List.cons_append, List.nil_append, hms, ltS])
            all_goals (try (repeat' (first
                | exact ltXs_nil
                | (apply ltXs_map; intro _; exact ⟨rfl, rfl⟩)
                | (apply imXs_map; intro _; exact ⟨rfl, rfl⟩)
                | with_reducible apply imXs_append
                | with_reducible refine imXs_cons ⟨rfl, rfl⟩ ?_
                | exact imXs_nil
                | with_reducible apply ltXs_append
                | with_reducible refine ltXs_cons ⟨rfl, rfl, ?_⟩ ?_
                | with_reducible apply And.intro
                | exact ltCs_im rfl
                | exact ltCs_im (by assumption)
                | (refine ⟨⟨?_, rfl, ?_, rfl, ?_⟩, trivial⟩ <;> first | (simp; done) | (apply imXs_map; intro _; exact ⟨rfl, rfl⟩))
                | trivial
                | rfl
                | (rw [i64_succ (by omega)])
                | omega)))
          simp only [tl, tl2, isCallR, entX, argFr, ret, retI, retB, intT, unT, endR, ressR, resR, tupT, bslR, boxR, lenAll, ↓reduceIte, Nat.reduceEqDiff, Nat.reduceAdd, Nat.reduceMul, Nat.reduceLT, Nat.reduceLeDiff, reduceCtorEq, Int.reduceLE, Int.reduceLT, ne_eq, Int.reduceEq, not_false_eq_true, decide_true, decide_false, Int.reduceToNat, tl3, Int.reduceBNe, Int.reduceBEq, rmK, rm1, not_true_eq_false, decide_eq_true_eq, decide_eq_false_iff_not]
          refine ⟨fun h => ?_, fun h => ?_⟩
          · have hm3 : m < ms.length := by omega
            have hwm := i64_succ (i := m) (by omega)
            simp only [tl, tl2, isCallR, entX, argFr, ret, retI, retB, intT, unT, endR, ressR, resR, tupT, bslR, boxR, lenAll, ↓reduceIte, Nat.reduceEqDiff, Nat.reduceAdd, Nat.reduceMul, Nat.reduceLT, Nat.reduceLeDiff, reduceCtorEq, Int.reduceLE, Int.reduceLT, ne_eq, Int.reduceEq, not_false_eq_true, decide_true, decide_false, Int.reduceToNat, tl3, Int.reduceBNe, Int.reduceBEq, rmK, rm1, not_true_eq_false, Int.toNat_natCast, getD_mapT hm3, hml]
            refine ⟨by omega, ?_⟩
            obtain ⟨M, hM⟩ : ∃ N, N = ms[m] := ⟨_, rfl⟩
            rw [← hM]
            refine C1.im (c_draw_Mod kind 3 (by omega)) rfl (by rfl) ?_
            have hm6 := mod_range (n := kind) (m := 3) (by omega)
            have hw6 : IntKind.i64.wrap (1 + modI kind 3) = 1 + modI kind 3 := IntWalk.i64_in _ (by omega)
            simp only [tl, tl2, isCallR, entX, argFr, ret, retI, retB, intT, unT, endR, ressR, resR, tupT, bslR, boxR, lenAll, ↓reduceIte, Nat.reduceEqDiff, Nat.reduceAdd, Nat.reduceMul, Nat.reduceLT, Nat.reduceLeDiff, reduceCtorEq, Int.reduceLE, Int.reduceLT, ne_eq, Int.reduceEq, not_false_eq_true, decide_true, decide_false, Int.reduceToNat, tl3, Int.reduceBNe, Int.reduceBEq, rmK, rm1, not_true_eq_false, hw6]
            obtain ⟨ks, hks⟩ : ∃ ns, ns = [kind, 1 + modI kind 3] := ⟨_, rfl⟩
            have hkl' : ks.length = 2 := by rw [hks]; rfl
            refine W_loopF mixm (α := Nat) [229, 231] (fun q => q ≤ 2) (fun q => [(229, vIs ks), (231, vI q)]) (fun q => [(139276, .arr 1 (rs.map vEs) false)]) (fun q => 2 - q) 0 (by omega) ?_ fun q hq => ?_
            · refine .of [(139276, some 139276)] [184336] rfl (by first | rfl | (rw [hst]; rfl)) ?_ ?_
              all_goals (try simp only [ltSto, ltO2, ltO1, ltAs, ltA, ltC, ltCs, ltT, ltFr, ltS, wrOk, wrO, TL.get, hasFr, ↓reduceIte, Nat.reduceEqDiff, reduceCtorEq, Option.getD_some, Option.isSome_some, List.length_map, List.length_append, List.length_cons, List.length_nil, List.append_nil, List.mem_singleton, List.mem_cons, List.not_mem_nil, and_true, true_and, and_self, imp_self, forall_const, false_implies, implies_true, true_implies, or_false, Bool.false_eq_true, Bool.true_eq_false, ImXs_nil, true_or, or_true, false_or, false_and, and_false, rmK, rm1, List.map_append, List.map_cons, List.map_nil, List.cons_append, List.nil_append, hks, ltS])
              all_goals (try (repeat' (first
                  | exact ltXs_nil
                  | (apply ltXs_map; intro _; exact ⟨rfl, rfl⟩)
                  | (apply imXs_map; intro _; exact ⟨rfl, rfl⟩)
                  | with_reducible apply imXs_append
                  | with_reducible refine imXs_cons ⟨rfl, rfl⟩ ?_
                  | exact imXs_nil
                  | with_reducible apply ltXs_append
                  | with_reducible refine ltXs_cons ⟨rfl, rfl, ?_⟩ ?_
                  | with_reducible apply And.intro
                  | exact ltCs_im rfl
                  | exact ltCs_im (by assumption)
                  | (refine ⟨⟨?_, rfl, ?_, rfl, ?_⟩, trivial⟩ <;> first | (simp; done) | (apply imXs_map; intro _; exact ⟨rfl, rfl⟩))
                  | trivial
                  | rfl
                  | (rw [i64_succ (by omega)])
                  | omega)))
            simp only [tl, tl2, isCallR, entX, argFr, ret, retI, retB, intT, unT, endR, ressR, resR, tupT, bslR, boxR, lenAll, ↓reduceIte, Nat.reduceEqDiff, Nat.reduceAdd, Nat.reduceMul, Nat.reduceLT, Nat.reduceLeDiff, reduceCtorEq, Int.reduceLE, Int.reduceLT, ne_eq, Int.reduceEq, not_false_eq_true, decide_true, decide_false, Int.reduceToNat, tl3, Int.reduceBNe, Int.reduceBEq, rmK, rm1, not_true_eq_false, decide_eq_true_eq, decide_eq_false_iff_not]
            refine ⟨fun h => ?_, fun h => ?_⟩
            · have hq3 : q < ks.length := by omega
              have hwq := i64_succ (i := q) (by omega)
              simp only [tl, tl2, isCallR, entX, argFr, ret, retI, retB, intT, unT, endR, ressR, resR, tupT, bslR, boxR, lenAll, ↓reduceIte, Nat.reduceEqDiff, Nat.reduceAdd, Nat.reduceMul, Nat.reduceLT, Nat.reduceLeDiff, reduceCtorEq, Int.reduceLE, Int.reduceLT, ne_eq, Int.reduceEq, not_false_eq_true, decide_true, decide_false, Int.reduceToNat, tl3, Int.reduceBNe, Int.reduceBEq, rmK, rm1, not_true_eq_false, Int.toNat_natCast, getD_mapT hq3, hkl']
              refine ⟨by omega, ?_⟩
              refine C1.im (c_register_Add r ks[q] M N text (by omega) hr2) rfl (by rfl) ?_
              simp only [tl, tl2, isCallR, entX, argFr, ret, retI, retB, intT, unT, endR, ressR, resR, tupT, bslR, boxR, lenAll, ↓reduceIte, Nat.reduceEqDiff, Nat.reduceAdd, Nat.reduceMul, Nat.reduceLT, Nat.reduceLeDiff, reduceCtorEq, Int.reduceLE, Int.reduceLT, ne_eq, Int.reduceEq, not_false_eq_true, decide_true, decide_false, Int.reduceToNat, tl3, Int.reduceBNe, Int.reduceBEq, rmK, rm1, not_true_eq_false]
              refine C1.im (c_ref38_Add r ks[q] M N text (by omega) hr2) rfl (by rfl) ?_
              simp only [tl, tl2, isCallR, entX, argFr, ret, retI, retB, intT, unT, endR, ressR, resR, tupT, bslR, boxR, lenAll, ↓reduceIte, Nat.reduceEqDiff, Nat.reduceAdd, Nat.reduceMul, Nat.reduceLT, Nat.reduceLeDiff, reduceCtorEq, Int.reduceLE, Int.reduceLT, ne_eq, Int.reduceEq, not_false_eq_true, decide_true, decide_false, Int.reduceToNat, tl3, Int.reduceBNe, Int.reduceBEq, rmK, rm1, not_true_eq_false]
              have hal : (addA r ks[q] M N text).1.length ≤ 21 := by
                unfold addA
                split
                · simp only; omega
                · split
                  · simp only; omega
                  · split
                    · simp only; omega
                    · simp; omega
              refine C1.im (c_ref38_Same _ _ (by omega) (by omega)) rfl (by rfl) ?_
              simp only [tl, tl2, isCallR, entX, argFr, ret, retI, retB, intT, unT, endR, ressR, resR, tupT, bslR, boxR, lenAll, ↓reduceIte, Nat.reduceEqDiff, Nat.reduceAdd, Nat.reduceMul, Nat.reduceLT, Nat.reduceLeDiff, reduceCtorEq, Int.reduceLE, Int.reduceLT, ne_eq, Int.reduceEq, not_false_eq_true, decide_true, decide_false, Int.reduceToNat, tl3, Int.reduceBNe, Int.reduceBEq, rmK, rm1, not_true_eq_false, same_true, bne_self_eq_false]
              refine ⟨q + 1, by omega, by omega, ?_⟩
              refine .of [(139276, some 139276)] [] rfl (by first | rfl | (rw [hst]; rfl)) ?_ ?_
              all_goals (try simp only [ltSto, ltO2, ltO1, ltAs, ltA, ltC, ltCs, ltT, ltFr, ltS, wrOk, wrO, TL.get, hasFr, ↓reduceIte, Nat.reduceEqDiff, reduceCtorEq, Option.getD_some, Option.isSome_some, List.length_map, List.length_append, List.length_cons, List.length_nil, List.append_nil, List.mem_singleton, List.mem_cons, List.not_mem_nil, and_true, true_and, and_self, imp_self, forall_const, false_implies, implies_true, true_implies, or_false, Bool.false_eq_true, Bool.true_eq_false, ImXs_nil, true_or, or_true, false_or, false_and, and_false, rmK, rm1, List.map_append, List.map_cons, List.map_nil, List.cons_append, List.nil_append])
              all_goals (try (repeat' (first
                  | exact ltXs_nil
                  | (apply ltXs_map; intro _; exact ⟨rfl, rfl⟩)
                  | (apply imXs_map; intro _; exact ⟨rfl, rfl⟩)
                  | with_reducible apply imXs_append
                  | with_reducible refine imXs_cons ⟨rfl, rfl⟩ ?_
                  | exact imXs_nil
                  | with_reducible apply ltXs_append
                  | with_reducible refine ltXs_cons ⟨rfl, rfl, ?_⟩ ?_
                  | with_reducible apply And.intro
                  | exact ltCs_im rfl
                  | exact ltCs_im (by assumption)
                  | (refine ⟨⟨?_, rfl, ?_, rfl, ?_⟩, trivial⟩ <;> first | (simp; done) | (apply imXs_map; intro _; exact ⟨rfl, rfl⟩))
                  | trivial
                  | rfl
                  | (rw [i64_succ (by omega)])
                  | omega)))
            · refine C1.im (c_register_History r M (by omega) hr2) rfl (by rfl) ?_
              simp only [tl, tl2, isCallR, entX, argFr, ret, retI, retB, intT, unT, endR, ressR, resR, tupT, bslR, boxR, lenAll, ↓reduceIte, Nat.reduceEqDiff, Nat.reduceAdd, Nat.reduceMul, Nat.reduceLT, Nat.reduceLeDiff, reduceCtorEq, Int.reduceLE, Int.reduceLT, ne_eq, Int.reduceEq, not_false_eq_true, decide_true, decide_false, Int.reduceToNat, tl3, Int.reduceBNe, Int.reduceBEq, rmK, rm1, not_true_eq_false]
              refine C1.im (c_ref38_History r M (by omega) hr2) rfl (by rfl) ?_
              simp only [tl, tl2, isCallR, entX, argFr, ret, retI, retB, intT, unT, endR, ressR, resR, tupT, bslR, boxR, lenAll, ↓reduceIte, Nat.reduceEqDiff, Nat.reduceAdd, Nat.reduceMul, Nat.reduceLT, Nat.reduceLeDiff, reduceCtorEq, Int.reduceLE, Int.reduceLT, ne_eq, Int.reduceEq, not_false_eq_true, decide_true, decide_false, Int.reduceToNat, tl3, Int.reduceBNe, Int.reduceBEq, rmK, rm1, not_true_eq_false]
              have hhl : (histA r M).1.length < 4611686018427387904 := by
                unfold histA
                split
                · simp
                · split
                  · simp
                  · have := hist_len (l := r) M.toNat M.toNat
                    simp only [histN]
                    omega
              refine C1.im (c_ref28_Ints _ _ hhl hhl) rfl (by rfl) ?_
              simp only [tl, tl2, isCallR, entX, argFr, ret, retI, retB, intT, unT, endR, ressR, resR, tupT, bslR, boxR, lenAll, ↓reduceIte, Nat.reduceEqDiff, Nat.reduceAdd, Nat.reduceMul, Nat.reduceLT, Nat.reduceLeDiff, reduceCtorEq, Int.reduceLE, Int.reduceLT, ne_eq, Int.reduceEq, not_false_eq_true, decide_true, decide_false, Int.reduceToNat, tl3, Int.reduceBNe, Int.reduceBEq, rmK, rm1, not_true_eq_false, ints_true, bne_self_eq_false]
              refine ⟨m + 1, by omega, by omega, ?_⟩
              refine .of [(139276, some 139276)] [] rfl (by first | rfl | (rw [hst]; rfl)) ?_ ?_
              all_goals (try simp only [ltSto, ltO2, ltO1, ltAs, ltA, ltC, ltCs, ltT, ltFr, ltS, wrOk, wrO, TL.get, hasFr, ↓reduceIte, Nat.reduceEqDiff, reduceCtorEq, Option.getD_some, Option.isSome_some, List.length_map, List.length_append, List.length_cons, List.length_nil, List.append_nil, List.mem_singleton, List.mem_cons, List.not_mem_nil, and_true, true_and, and_self, imp_self, forall_const, false_implies, implies_true, true_implies, or_false, Bool.false_eq_true, Bool.true_eq_false, ImXs_nil, true_or, or_true, false_or, false_and, and_false, rmK, rm1, List.map_append, List.map_cons, List.map_nil, List.cons_append, List.nil_append])
              all_goals (try (repeat' (first
                  | exact ltXs_nil
                  | (apply ltXs_map; intro _; exact ⟨rfl, rfl⟩)
                  | (apply imXs_map; intro _; exact ⟨rfl, rfl⟩)
                  | with_reducible apply imXs_append
                  | with_reducible refine imXs_cons ⟨rfl, rfl⟩ ?_
                  | exact imXs_nil
                  | with_reducible apply ltXs_append
                  | with_reducible refine ltXs_cons ⟨rfl, rfl, ?_⟩ ?_
                  | with_reducible apply And.intro
                  | exact ltCs_im rfl
                  | exact ltCs_im (by assumption)
                  | (refine ⟨⟨?_, rfl, ?_, rfl, ?_⟩, trivial⟩ <;> first | (simp; done) | (apply imXs_map; intro _; exact ⟨rfl, rfl⟩))
                  | trivial
                  | rfl
                  | (rw [i64_succ (by omega)])
                  | omega)))
          · refine C1.im (c_register_Find r N (by omega) hr2) rfl (by rfl) ?_
            simp only [tl, tl2, isCallR, entX, argFr, ret, retI, retB, intT, unT, endR, ressR, resR, tupT, bslR, boxR, lenAll, ↓reduceIte, Nat.reduceEqDiff, Nat.reduceAdd, Nat.reduceMul, Nat.reduceLT, Nat.reduceLeDiff, reduceCtorEq, Int.reduceLE, Int.reduceLT, ne_eq, Int.reduceEq, not_false_eq_true, decide_true, decide_false, Int.reduceToNat, tl3, Int.reduceBNe, Int.reduceBEq, rmK, rm1, not_true_eq_false]
            refine C1.im (c_ref38_Find r N (by omega) hr2) rfl (by rfl) ?_
            simp only [tl, tl2, isCallR, entX, argFr, ret, retI, retB, intT, unT, endR, ressR, resR, tupT, bslR, boxR, lenAll, ↓reduceIte, Nat.reduceEqDiff, Nat.reduceAdd, Nat.reduceMul, Nat.reduceLT, Nat.reduceLeDiff, reduceCtorEq, Int.reduceLE, Int.reduceLT, ne_eq, Int.reduceEq, not_false_eq_true, decide_true, decide_false, Int.reduceToNat, tl3, Int.reduceBNe, Int.reduceBEq, rmK, rm1, not_true_eq_false, bne_self_eq_false]
            refine ⟨n + 1, by omega, by omega, ?_⟩
            refine .of [(139276, some 139276)] [] rfl (by first | rfl | (rw [hst]; rfl)) ?_ ?_
            all_goals (try simp only [ltSto, ltO2, ltO1, ltAs, ltA, ltC, ltCs, ltT, ltFr, ltS, wrOk, wrO, TL.get, hasFr, ↓reduceIte, Nat.reduceEqDiff, reduceCtorEq, Option.getD_some, Option.isSome_some, List.length_map, List.length_append, List.length_cons, List.length_nil, List.append_nil, List.mem_singleton, List.mem_cons, List.not_mem_nil, and_true, true_and, and_self, imp_self, forall_const, false_implies, implies_true, true_implies, or_false, Bool.false_eq_true, Bool.true_eq_false, ImXs_nil, true_or, or_true, false_or, false_and, and_false, rmK, rm1, List.map_append, List.map_cons, List.map_nil, List.cons_append, List.nil_append])
            all_goals (try (repeat' (first
                | exact ltXs_nil
                | (apply ltXs_map; intro _; exact ⟨rfl, rfl⟩)
                | (apply imXs_map; intro _; exact ⟨rfl, rfl⟩)
                | with_reducible apply imXs_append
                | with_reducible refine imXs_cons ⟨rfl, rfl⟩ ?_
                | exact imXs_nil
                | with_reducible apply ltXs_append
                | with_reducible refine ltXs_cons ⟨rfl, rfl, ?_⟩ ?_
                | with_reducible apply And.intro
                | exact ltCs_im rfl
                | exact ltCs_im (by assumption)
                | (refine ⟨⟨?_, rfl, ?_, rfl, ?_⟩, trivial⟩ <;> first | (simp; done) | (apply imXs_map; intro _; exact ⟨rfl, rfl⟩))
                | trivial
                | rfl
                | (rw [i64_succ (by omega)])
                | omega)))
        · refine ⟨a + 1, by omega, by omega, ?_⟩
          refine .of [(139276, some 139276)] [] rfl (by first | rfl | (rw [hst]; rfl)) ?_ ?_
          all_goals (try simp only [ltSto, ltO2, ltO1, ltAs, ltA, ltC, ltCs, ltT, ltFr, ltS, wrOk, wrO, TL.get, hasFr, ↓reduceIte, Nat.reduceEqDiff, reduceCtorEq, Option.getD_some, Option.isSome_some, List.length_map, List.length_append, List.length_cons, List.length_nil, List.append_nil, List.mem_singleton, List.mem_cons, List.not_mem_nil, and_true, true_and, and_self, imp_self, forall_const, false_implies, implies_true, true_implies, or_false, Bool.false_eq_true, Bool.true_eq_false, ImXs_nil, true_or, or_true, false_or, false_and, and_false, rmK, rm1, List.map_append, List.map_cons, List.map_nil, List.cons_append, List.nil_append])
          all_goals (try (repeat' (first
              | exact ltXs_nil
              | (apply ltXs_map; intro _; exact ⟨rfl, rfl⟩)
              | (apply imXs_map; intro _; exact ⟨rfl, rfl⟩)
              | with_reducible apply imXs_append
              | with_reducible refine imXs_cons ⟨rfl, rfl⟩ ?_
              | exact imXs_nil
              | with_reducible apply ltXs_append
              | with_reducible refine ltXs_cons ⟨rfl, rfl, ?_⟩ ?_
              | with_reducible apply And.intro
              | exact ltCs_im rfl
              | exact ltCs_im (by assumption)
              | (refine ⟨⟨?_, rfl, ?_, rfl, ?_⟩, trivial⟩ <;> first | (simp; done) | (apply imXs_map; intro _; exact ⟨rfl, rfl⟩))
              | trivial
              | rfl
              | (rw [i64_succ (by omega)])
              | omega)))
      · refine C1.im c_law38_awake rfl (by rfl) ?_
        simp only [tl, tl2, isCallR, entX, argFr, ret, retI, retB, intT, unT, endR, ressR, resR, tupT, bslR, boxR, lenAll, ↓reduceIte, Nat.reduceEqDiff, Nat.reduceAdd, Nat.reduceMul, Nat.reduceLT, Nat.reduceLeDiff, reduceCtorEq, Int.reduceLE, Int.reduceLT, ne_eq, Int.reduceEq, not_false_eq_true, decide_true, decide_false, Int.reduceToNat, tl3, Int.reduceBNe, Int.reduceBEq, rmK, rm1, not_true_eq_false]
        exact .imR rfl rfl
    · refine ⟨by omega, by omega, by omega, by omega, ?_⟩
      obtain ⟨odd, ho⟩ : ∃ o, o = L.set k { L[k] with link := IntKind.u64.wrap (L[k].link + 1) } := ⟨_, rfl⟩
      rw [← List.map_set, ← ho]
      have hol : odd.length ≤ 8 := by rw [ho, List.length_set]; omega
      have hos : small odd := by rw [ho]; exact set_small hsm (by show L[k].text.size ≤ 1000000000; omega)
      have hoL : L.length = odd.length := by rw [ho, List.length_set]
      rw [hoL]
      clear ho
      refine C1.im (c_register_Sum b (by omega)) rfl (by rfl) ?_
      simp only [tl, tl2, isCallR, entX, argFr, ret, retI, retB, intT, unT, endR, ressR, resR, tupT, bslR, boxR, lenAll, ↓reduceIte, Nat.reduceEqDiff, Nat.reduceAdd, Nat.reduceMul, Nat.reduceLT, Nat.reduceLeDiff, reduceCtorEq, Int.reduceLE, Int.reduceLT, ne_eq, Int.reduceEq, not_false_eq_true, decide_true, decide_false, Int.reduceToNat, tl3, Int.reduceBNe, Int.reduceBEq, rmK, rm1, not_true_eq_false]
      refine C1.im (c_ref38_Sum b (by omega)) rfl (by rfl) ?_
      simp only [tl, tl2, isCallR, entX, argFr, ret, retI, retB, intT, unT, endR, ressR, resR, tupT, bslR, boxR, lenAll, ↓reduceIte, Nat.reduceEqDiff, Nat.reduceAdd, Nat.reduceMul, Nat.reduceLT, Nat.reduceLeDiff, reduceCtorEq, Int.reduceLE, Int.reduceLT, ne_eq, Int.reduceEq, not_false_eq_true, decide_true, decide_false, Int.reduceToNat, tl3, Int.reduceBNe, Int.reduceBEq, rmK, rm1, not_true_eq_false, bne_self_eq_false, entT]
      refine C2.im (fun _ => c_register_Link x (by omega)) (fun _ => rfl) (by rfl) ?_
      simp only [tl, tl2, isCallR, entX, argFr, ret, retI, retB, intT, unT, endR, ressR, resR, tupT, bslR, boxR, lenAll, ↓reduceIte, Nat.reduceEqDiff, Nat.reduceAdd, Nat.reduceMul, Nat.reduceLT, Nat.reduceLeDiff, reduceCtorEq, Int.reduceLE, Int.reduceLT, ne_eq, Int.reduceEq, not_false_eq_true, decide_true, decide_false, Int.reduceToNat, tl3, Int.reduceBNe, Int.reduceBEq, rmK, rm1, not_true_eq_false]
      refine C2.im (fun _ => c_ref38_Link x (by omega)) (fun _ => rfl) (by rfl) ?_
      simp only [tl, tl2, isCallR, entX, argFr, ret, retI, retB, intT, unT, endR, ressR, resR, tupT, bslR, boxR, lenAll, ↓reduceIte, Nat.reduceEqDiff, Nat.reduceAdd, Nat.reduceMul, Nat.reduceLT, Nat.reduceLeDiff, reduceCtorEq, Int.reduceLE, Int.reduceLT, ne_eq, Int.reduceEq, not_false_eq_true, decide_true, decide_false, Int.reduceToNat, tl3, Int.reduceBNe, Int.reduceBEq, rmK, rm1, not_true_eq_false, bne_self_eq_false]
      refine ⟨by kernel_rfl, ?_⟩
      obtain ⟨rs, hrs2⟩ : ∃ rs, rs = [raw, L, odd] := ⟨_, rfl⟩
      have hrl : rs.length = 3 := by rw [hrs2]; rfl
      have hrsa : ∀ r ∈ rs, r.length ≤ 20 ∧ small r := by
        intro r hr
        rw [hrs2] at hr
        simp only [List.mem_cons, List.not_mem_nil, or_false] at hr
        rcases hr with rfl | rfl | rfl
        · exact ⟨by omega, hraws⟩
        · exact ⟨by omega, hsm⟩
        · exact ⟨by omega, hos⟩
      refine W_loopF mixm (α := Nat) [190] (fun a => a ≤ 3) (fun a => [(190, vI a)]) (fun a => [(139276, .arr 1 (rs.map vEs) false)]) (fun a => 3 - a) 0 (by omega) ?_ fun a ha => ?_
      · refine .of [(139276, some 139276)] [49152] rfl (by first | rfl | (rw [hst]; rfl)) ?_ ?_
        all_goals (try simp only [ltSto, ltO2, ltO1, ltAs, ltA, ltC, ltCs, ltT, ltFr, ltS, wrOk, wrO, TL.get, hasFr, ↓reduceIte, Nat.reduceEqDiff, reduceCtorEq, Option.getD_some, Option.isSome_some, List.length_map, List.length_append, List.length_cons, List.length_nil, List.append_nil, List.mem_singleton, List.mem_cons, List.not_mem_nil, and_true, true_and, and_self, imp_self, forall_const, false_implies, implies_true, true_implies, or_false, Bool.false_eq_true, Bool.true_eq_false, ImXs_nil, true_or, or_true, false_or, false_and, and_false, rmK, rm1, List.map_append, List.map_cons, List.map_nil, List.cons_append, List.nil_append, hrs2, ltS, List.length_map])
        all_goals (try (repeat' (first
            | exact ltXs_nil
            | (apply ltXs_map; intro _; exact ⟨rfl, rfl⟩)
            | (apply imXs_map; intro _; exact ⟨rfl, rfl⟩)
            | with_reducible apply imXs_append
            | with_reducible refine imXs_cons ⟨rfl, rfl⟩ ?_
            | exact imXs_nil
            | with_reducible apply ltXs_append
            | with_reducible refine ltXs_cons ⟨rfl, rfl, ?_⟩ ?_
            | with_reducible apply And.intro
            | exact ltCs_im rfl
            | exact ltCs_im (by assumption)
            | (refine ⟨⟨?_, rfl, ?_, rfl, ?_⟩, trivial⟩ <;> first | (simp; done) | (apply imXs_map; intro _; exact ⟨rfl, rfl⟩))
            | trivial
            | rfl
            | (rw [i64_succ (by omega)])
            | omega)))
      simp only [tl, tl2, isCallR, entX, argFr, ret, retI, retB, intT, unT, endR, ressR, resR, tupT, bslR, boxR, lenAll, ↓reduceIte, Nat.reduceEqDiff, Nat.reduceAdd, Nat.reduceMul, Nat.reduceLT, Nat.reduceLeDiff, reduceCtorEq, Int.reduceLE, Int.reduceLT, ne_eq, Int.reduceEq, not_false_eq_true, decide_true, decide_false, Int.reduceToNat, tl3, Int.reduceBNe, Int.reduceBEq, rmK, rm1, not_true_eq_false, decide_eq_true_eq, decide_eq_false_iff_not]
      refine ⟨fun h => ?_, fun h => ?_⟩
      · have ha3 : a < rs.length := by omega
        obtain ⟨hr1, hr2⟩ := hrsa rs[a] (List.getElem_mem _)
        have hwa := i64_succ (i := a) (by omega)
        simp only [tl, tl2, isCallR, entX, argFr, ret, retI, retB, intT, unT, endR, ressR, resR, tupT, bslR, boxR, lenAll, ↓reduceIte, Nat.reduceEqDiff, Nat.reduceAdd, Nat.reduceMul, Nat.reduceLT, Nat.reduceLeDiff, reduceCtorEq, Int.reduceLE, Int.reduceLT, ne_eq, Int.reduceEq, not_false_eq_true, decide_true, decide_false, Int.reduceToNat, tl3, Int.reduceBNe, Int.reduceBEq, rmK, rm1, not_true_eq_false, Int.toNat_natCast, getD_mapT ha3, hrl, List.length_map]
        refine ⟨by omega, by omega, ?_⟩
        obtain ⟨r, hr⟩ : ∃ r, r = rs[a] := ⟨_, rfl⟩
        rw [← hr] at hr1 hr2 ⊢
        refine C1.im (c_register_Check r (by omega) hr2) rfl (by rfl) ?_
        simp only [tl, tl2, isCallR, entX, argFr, ret, retI, retB, intT, unT, endR, ressR, resR, tupT, bslR, boxR, lenAll, ↓reduceIte, Nat.reduceEqDiff, Nat.reduceAdd, Nat.reduceMul, Nat.reduceLT, Nat.reduceLeDiff, reduceCtorEq, Int.reduceLE, Int.reduceLT, ne_eq, Int.reduceEq, not_false_eq_true, decide_true, decide_false, Int.reduceToNat, tl3, Int.reduceBNe, Int.reduceBEq, rmK, rm1, not_true_eq_false]
        refine C1.im (c_ref38_Check r (by omega) hr2) rfl (by rfl) ?_
        simp only [tl, tl2, isCallR, entX, argFr, ret, retI, retB, intT, unT, endR, ressR, resR, tupT, bslR, boxR, lenAll, ↓reduceIte, Nat.reduceEqDiff, Nat.reduceAdd, Nat.reduceMul, Nat.reduceLT, Nat.reduceLeDiff, reduceCtorEq, Int.reduceLE, Int.reduceLT, ne_eq, Int.reduceEq, not_false_eq_true, decide_true, decide_false, Int.reduceToNat, tl3, Int.reduceBNe, Int.reduceBEq, rmK, rm1, not_true_eq_false, bne_self_eq_false]
        refine C2.im (fun _ => c_register_InForce r (by omega) hr2) (fun _ => rfl) (by rfl) ?_
        simp only [tl, tl2, isCallR, entX, argFr, ret, retI, retB, intT, unT, endR, ressR, resR, tupT, bslR, boxR, lenAll, ↓reduceIte, Nat.reduceEqDiff, Nat.reduceAdd, Nat.reduceMul, Nat.reduceLT, Nat.reduceLeDiff, reduceCtorEq, Int.reduceLE, Int.reduceLT, ne_eq, Int.reduceEq, not_false_eq_true, decide_true, decide_false, Int.reduceToNat, tl3, Int.reduceBNe, Int.reduceBEq, rmK, rm1, not_true_eq_false]
        refine C2.im (fun _ => c_ref38_InForce r (by omega) hr2) (fun _ => rfl) (by rfl) ?_
        have hfl : (forceA r).length ≤ 60 := by
          by_cases hc0 : chkI r = 0
          · exact forceA_len hc0
          · rw [forceA, if_neg hc0]; simp
        simp only [tl, tl2, isCallR, entX, argFr, ret, retI, retB, intT, unT, endR, ressR, resR, tupT, bslR, boxR, lenAll, ↓reduceIte, Nat.reduceEqDiff, Nat.reduceAdd, Nat.reduceMul, Nat.reduceLT, Nat.reduceLeDiff, reduceCtorEq, Int.reduceLE, Int.reduceLT, ne_eq, Int.reduceEq, not_false_eq_true, decide_true, decide_false, Int.reduceToNat, tl3, Int.reduceBNe, Int.reduceBEq, rmK, rm1, not_true_eq_false]
        refine C2.im (fun _ => c_ref28_Ints (forceA r) (forceA r) (by omega) (by omega)) (fun _ => rfl) (by rfl) ?_
        simp only [tl, tl2, isCallR, entX, argFr, ret, retI, retB, intT, unT, endR, ressR, resR, tupT, bslR, boxR, lenAll, ↓reduceIte, Nat.reduceEqDiff, Nat.reduceAdd, Nat.reduceMul, Nat.reduceLT, Nat.reduceLeDiff, reduceCtorEq, Int.reduceLE, Int.reduceLT, ne_eq, Int.reduceEq, not_false_eq_true, decide_true, decide_false, Int.reduceToNat, tl3, Int.reduceBNe, Int.reduceBEq, rmK, rm1, not_true_eq_false, ints_true]
        refine C1.im (c_draw_Mod out 9 (by omega)) rfl (by rfl) ?_
        simp only [tl, tl2, isCallR, entX, argFr, ret, retI, retB, intT, unT, endR, ressR, resR, tupT, bslR, boxR, lenAll, ↓reduceIte, Nat.reduceEqDiff, Nat.reduceAdd, Nat.reduceMul, Nat.reduceLT, Nat.reduceLeDiff, reduceCtorEq, Int.reduceLE, Int.reduceLT, ne_eq, Int.reduceEq, not_false_eq_true, decide_true, decide_false, Int.reduceToNat, tl3, Int.reduceBNe, Int.reduceBEq, rmK, rm1, not_true_eq_false]
        obtain ⟨ns, hns⟩ : ∃ ns, ns = [out, modI out 9] := ⟨_, rfl⟩
        have hnl : ns.length = 2 := by rw [hns]; rfl
        refine W_loopF mixm (α := Nat) [210, 212] (fun n => n ≤ 2) (fun n => [(210, vIs ns), (212, vI n)]) (fun n => [(139276, .arr 1 (rs.map vEs) false)]) (fun n => 2 - n) 0 (by omega) ?_ fun n hn => ?_
        · refine .of [(139276, some 139276)] [159756] rfl (by first | rfl | (rw [hst]; rfl)) ?_ ?_
          all_goals (try simp only [ltSto, ltO2, ltO1, ltAs, ltA, ltC, ltCs, ltT, ltFr, ltS, wrOk, wrO, TL.get, hasFr, ↓reduceIte, Nat.reduceEqDiff, reduceCtorEq, Option.getD_some, Option.isSome_some, List.length_map, List.length_append, List.length_cons, List.length_nil, List.append_nil, List.mem_singleton, List.mem_cons, List.not_mem_nil, and_true, true_and, and_self, imp_self, forall_const, false_implies, implies_true, true_implies, or_false, Bool.false_eq_true, Bool.true_eq_false, ImXs_nil, true_or, or_true, false_or, false_and, and_false, rmK, rm1, List.map_append, List.map_cons, List.map_nil, List.cons_append, List.nil_append, hns, ltS])
          all_goals (try (repeat' (first
              | exact ltXs_nil
              | (apply ltXs_map; intro _; exact ⟨rfl, rfl⟩)
              | (apply imXs_map; intro _; exact ⟨rfl, rfl⟩)
              | with_reducible apply imXs_append
              | with_reducible refine imXs_cons ⟨rfl, rfl⟩ ?_
              | exact imXs_nil
              | with_reducible apply ltXs_append
              | with_reducible refine ltXs_cons ⟨rfl, rfl, ?_⟩ ?_
              | with_reducible apply And.intro
              | exact ltCs_im rfl
              | exact ltCs_im (by assumption)
              | (refine ⟨⟨?_, rfl, ?_, rfl, ?_⟩, trivial⟩ <;> first | (simp; done) | (apply imXs_map; intro _; exact ⟨rfl, rfl⟩))
              | trivial
              | rfl
              | (rw [i64_succ (by omega)])
              | omega)))
        simp only [tl, tl2, isCallR, entX, argFr, ret, retI, retB, intT, unT, endR, ressR, resR, tupT, bslR, boxR, lenAll, ↓reduceIte, Nat.reduceEqDiff, Nat.reduceAdd, Nat.reduceMul, Nat.reduceLT, Nat.reduceLeDiff, reduceCtorEq, Int.reduceLE, Int.reduceLT, ne_eq, Int.reduceEq, not_false_eq_true, decide_true, decide_false, Int.reduceToNat, tl3, Int.reduceBNe, Int.reduceBEq, rmK, rm1, not_true_eq_false, decide_eq_true_eq, decide_eq_false_iff_not]
        refine ⟨fun h => ?_, fun h => ?_⟩
        · have hn3 : n < ns.length := by omega
          have hwn := i64_succ (i := n) (by omega)
          simp only [tl, tl2, isCallR, entX, argFr, ret, retI, retB, intT, unT, endR, ressR, resR, tupT, bslR, boxR, lenAll, ↓reduceIte, Nat.reduceEqDiff, Nat.reduceAdd, Nat.reduceMul, Nat.reduceLT, Nat.reduceLeDiff, reduceCtorEq, Int.reduceLE, Int.reduceLT, ne_eq, Int.reduceEq, not_false_eq_true, decide_true, decide_false, Int.reduceToNat, tl3, Int.reduceBNe, Int.reduceBEq, rmK, rm1, not_true_eq_false, Int.toNat_natCast, getD_mapT hn3, hnl]
          refine ⟨by omega, ?_⟩
          obtain ⟨N, hN⟩ : ∃ N, N = ns[n] := ⟨_, rfl⟩
          rw [← hN]
          refine C1.im (c_draw_Mod of_ 9 (by omega)) rfl (by rfl) ?_
          simp only [tl, tl2, isCallR, entX, argFr, ret, retI, retB, intT, unT, endR, ressR, resR, tupT, bslR, boxR, lenAll, ↓reduceIte, Nat.reduceEqDiff, Nat.reduceAdd, Nat.reduceMul, Nat.reduceLT, Nat.reduceLeDiff, reduceCtorEq, Int.reduceLE, Int.reduceLT, ne_eq, Int.reduceEq, not_false_eq_true, decide_true, decide_false, Int.reduceToNat, tl3, Int.reduceBNe, Int.reduceBEq, rmK, rm1, not_true_eq_false]
          obtain ⟨ms, hms⟩ : ∃ ns, ns = [of_, modI of_ 9] := ⟨_, rfl⟩
          have hml : ms.length = 2 := by rw [hms]; rfl
          refine W_loopF mixm (α := Nat) [219, 221] (fun m => m ≤ 2) (fun m => [(219, vIs ms), (221, vI m)]) (fun m => [(139276, .arr 1 (rs.map vEs) false)]) (fun m => 2 - m) 0 (by omega) ?_ fun m hm => ?_
          · refine .of [(139276, some 139276)] [172044] rfl (by first | rfl | (rw [hst]; rfl)) ?_ ?_
            all_goals (try simp only [ltSto, ltO2, ltO1, ltAs, ltA, ltC, ltCs, ltT, ltFr, ltS, wrOk, wrO, TL.get, hasFr, ↓reduceIte, Nat.reduceEqDiff, reduceCtorEq, Option.getD_some, Option.isSome_some, List.length_map, List.length_append, List.length_cons, List.length_nil, List.append_nil, List.mem_singleton, List.mem_cons, List.not_mem_nil, and_true, true_and, and_self, imp_self, forall_const, false_implies, implies_true, true_implies, or_false, Bool.false_eq_true, Bool.true_eq_false, ImXs_nil, true_or, or_true, false_or, false_and, and_false, rmK, rm1, List.map_append, List.map_cons, List.map_nil, List.cons_append, List.nil_append, hms, ltS])
            all_goals (try (repeat' (first
                | exact ltXs_nil
                | (apply ltXs_map; intro _; exact ⟨rfl, rfl⟩)
                | (apply imXs_map; intro _; exact ⟨rfl, rfl⟩)
                | with_reducible apply imXs_append
                | with_reducible refine imXs_cons ⟨rfl, rfl⟩ ?_
                | exact imXs_nil
                | with_reducible apply ltXs_append
                | with_reducible refine ltXs_cons ⟨rfl, rfl, ?_⟩ ?_
                | with_reducible apply And.intro
                | exact ltCs_im rfl
                | exact ltCs_im (by assumption)
                | (refine ⟨⟨?_, rfl, ?_, rfl, ?_⟩, trivial⟩ <;> first | (simp; done) | (apply imXs_map; intro _; exact ⟨rfl, rfl⟩))
                | trivial
                | rfl
                | (rw [i64_succ (by omega)])
                | omega)))
          simp only [tl, tl2, isCallR, entX, argFr, ret, retI, retB, intT, unT, endR, ressR, resR, tupT, bslR, boxR, lenAll, ↓reduceIte, Nat.reduceEqDiff, Nat.reduceAdd, Nat.reduceMul, Nat.reduceLT, Nat.reduceLeDiff, reduceCtorEq, Int.reduceLE, Int.reduceLT, ne_eq, Int.reduceEq, not_false_eq_true, decide_true, decide_false, Int.reduceToNat, tl3, Int.reduceBNe, Int.reduceBEq, rmK, rm1, not_true_eq_false, decide_eq_true_eq, decide_eq_false_iff_not]
          refine ⟨fun h => ?_, fun h => ?_⟩
          · have hm3 : m < ms.length := by omega
            have hwm := i64_succ (i := m) (by omega)
            simp only [tl, tl2, isCallR, entX, argFr, ret, retI, retB, intT, unT, endR, ressR, resR, tupT, bslR, boxR, lenAll, ↓reduceIte, Nat.reduceEqDiff, Nat.reduceAdd, Nat.reduceMul, Nat.reduceLT, Nat.reduceLeDiff, reduceCtorEq, Int.reduceLE, Int.reduceLT, ne_eq, Int.reduceEq, not_false_eq_true, decide_true, decide_false, Int.reduceToNat, tl3, Int.reduceBNe, Int.reduceBEq, rmK, rm1, not_true_eq_false, Int.toNat_natCast, getD_mapT hm3, hml]
            refine ⟨by omega, ?_⟩
            obtain ⟨M, hM⟩ : ∃ N, N = ms[m] := ⟨_, rfl⟩
            rw [← hM]
            refine C1.im (c_draw_Mod kind 3 (by omega)) rfl (by rfl) ?_
            have hm6 := mod_range (n := kind) (m := 3) (by omega)
            have hw6 : IntKind.i64.wrap (1 + modI kind 3) = 1 + modI kind 3 := IntWalk.i64_in _ (by omega)
            simp only [tl, tl2, isCallR, entX, argFr, ret, retI, retB, intT, unT, endR, ressR, resR, tupT, bslR, boxR, lenAll, ↓reduceIte, Nat.reduceEqDiff, Nat.reduceAdd, Nat.reduceMul, Nat.reduceLT, Nat.reduceLeDiff, reduceCtorEq, Int.reduceLE, Int.reduceLT, ne_eq, Int.reduceEq, not_false_eq_true, decide_true, decide_false, Int.reduceToNat, tl3, Int.reduceBNe, Int.reduceBEq, rmK, rm1, not_true_eq_false, hw6]
            obtain ⟨ks, hks⟩ : ∃ ns, ns = [kind, 1 + modI kind 3] := ⟨_, rfl⟩
            have hkl' : ks.length = 2 := by rw [hks]; rfl
            refine W_loopF mixm (α := Nat) [229, 231] (fun q => q ≤ 2) (fun q => [(229, vIs ks), (231, vI q)]) (fun q => [(139276, .arr 1 (rs.map vEs) false)]) (fun q => 2 - q) 0 (by omega) ?_ fun q hq => ?_
            · refine .of [(139276, some 139276)] [184336] rfl (by first | rfl | (rw [hst]; rfl)) ?_ ?_
              all_goals (try simp only [ltSto, ltO2, ltO1, ltAs, ltA, ltC, ltCs, ltT, ltFr, ltS, wrOk, wrO, TL.get, hasFr, ↓reduceIte, Nat.reduceEqDiff, reduceCtorEq, Option.getD_some, Option.isSome_some, List.length_map, List.length_append, List.length_cons, List.length_nil, List.append_nil, List.mem_singleton, List.mem_cons, List.not_mem_nil, and_true, true_and, and_self, imp_self, forall_const, false_implies, implies_true, true_implies, or_false, Bool.false_eq_true, Bool.true_eq_false, ImXs_nil, true_or, or_true, false_or, false_and, and_false, rmK, rm1, List.map_append, List.map_cons, List.map_nil, List.cons_append, List.nil_append, hks, ltS])
              all_goals (try (repeat' (first
                  | exact ltXs_nil
                  | (apply ltXs_map; intro _; exact ⟨rfl, rfl⟩)
                  | (apply imXs_map; intro _; exact ⟨rfl, rfl⟩)
                  | with_reducible apply imXs_append
                  | with_reducible refine imXs_cons ⟨rfl, rfl⟩ ?_
                  | exact imXs_nil
                  | with_reducible apply ltXs_append
                  | with_reducible refine ltXs_cons ⟨rfl, rfl, ?_⟩ ?_
                  | with_reducible apply And.intro
                  | exact ltCs_im rfl
                  | exact ltCs_im (by assumption)
                  | (refine ⟨⟨?_, rfl, ?_, rfl, ?_⟩, trivial⟩ <;> first | (simp; done) | (apply imXs_map; intro _; exact ⟨rfl, rfl⟩))
                  | trivial
                  | rfl
                  | (rw [i64_succ (by omega)])
                  | omega)))
            simp only [tl, tl2, isCallR, entX, argFr, ret, retI, retB, intT, unT, endR, ressR, resR, tupT, bslR, boxR, lenAll, ↓reduceIte, Nat.reduceEqDiff, Nat.reduceAdd, Nat.reduceMul, Nat.reduceLT, Nat.reduceLeDiff, reduceCtorEq, Int.reduceLE, Int.reduceLT, ne_eq, Int.reduceEq, not_false_eq_true, decide_true, decide_false, Int.reduceToNat, tl3, Int.reduceBNe, Int.reduceBEq, rmK, rm1, not_true_eq_false, decide_eq_true_eq, decide_eq_false_iff_not]
            refine ⟨fun h => ?_, fun h => ?_⟩
            · have hq3 : q < ks.length := by omega
              have hwq := i64_succ (i := q) (by omega)
              simp only [tl, tl2, isCallR, entX, argFr, ret, retI, retB, intT, unT, endR, ressR, resR, tupT, bslR, boxR, lenAll, ↓reduceIte, Nat.reduceEqDiff, Nat.reduceAdd, Nat.reduceMul, Nat.reduceLT, Nat.reduceLeDiff, reduceCtorEq, Int.reduceLE, Int.reduceLT, ne_eq, Int.reduceEq, not_false_eq_true, decide_true, decide_false, Int.reduceToNat, tl3, Int.reduceBNe, Int.reduceBEq, rmK, rm1, not_true_eq_false, Int.toNat_natCast, getD_mapT hq3, hkl']
              refine ⟨by omega, ?_⟩
              refine C1.im (c_register_Add r ks[q] M N text (by omega) hr2) rfl (by rfl) ?_
              simp only [tl, tl2, isCallR, entX, argFr, ret, retI, retB, intT, unT, endR, ressR, resR, tupT, bslR, boxR, lenAll, ↓reduceIte, Nat.reduceEqDiff, Nat.reduceAdd, Nat.reduceMul, Nat.reduceLT, Nat.reduceLeDiff, reduceCtorEq, Int.reduceLE, Int.reduceLT, ne_eq, Int.reduceEq, not_false_eq_true, decide_true, decide_false, Int.reduceToNat, tl3, Int.reduceBNe, Int.reduceBEq, rmK, rm1, not_true_eq_false]
              refine C1.im (c_ref38_Add r ks[q] M N text (by omega) hr2) rfl (by rfl) ?_
              simp only [tl, tl2, isCallR, entX, argFr, ret, retI, retB, intT, unT, endR, ressR, resR, tupT, bslR, boxR, lenAll, ↓reduceIte, Nat.reduceEqDiff, Nat.reduceAdd, Nat.reduceMul, Nat.reduceLT, Nat.reduceLeDiff, reduceCtorEq, Int.reduceLE, Int.reduceLT, ne_eq, Int.reduceEq, not_false_eq_true, decide_true, decide_false, Int.reduceToNat, tl3, Int.reduceBNe, Int.reduceBEq, rmK, rm1, not_true_eq_false]
              have hal : (addA r ks[q] M N text).1.length ≤ 21 := by
                unfold addA
                split
                · simp only; omega
                · split
                  · simp only; omega
                  · split
                    · simp only; omega
                    · simp; omega
              refine C1.im (c_ref38_Same _ _ (by omega) (by omega)) rfl (by rfl) ?_
              simp only [tl, tl2, isCallR, entX, argFr, ret, retI, retB, intT, unT, endR, ressR, resR, tupT, bslR, boxR, lenAll, ↓reduceIte, Nat.reduceEqDiff, Nat.reduceAdd, Nat.reduceMul, Nat.reduceLT, Nat.reduceLeDiff, reduceCtorEq, Int.reduceLE, Int.reduceLT, ne_eq, Int.reduceEq, not_false_eq_true, decide_true, decide_false, Int.reduceToNat, tl3, Int.reduceBNe, Int.reduceBEq, rmK, rm1, not_true_eq_false, same_true, bne_self_eq_false]
              refine ⟨q + 1, by omega, by omega, ?_⟩
              refine .of [(139276, some 139276)] [] rfl (by first | rfl | (rw [hst]; rfl)) ?_ ?_
              all_goals (try simp only [ltSto, ltO2, ltO1, ltAs, ltA, ltC, ltCs, ltT, ltFr, ltS, wrOk, wrO, TL.get, hasFr, ↓reduceIte, Nat.reduceEqDiff, reduceCtorEq, Option.getD_some, Option.isSome_some, List.length_map, List.length_append, List.length_cons, List.length_nil, List.append_nil, List.mem_singleton, List.mem_cons, List.not_mem_nil, and_true, true_and, and_self, imp_self, forall_const, false_implies, implies_true, true_implies, or_false, Bool.false_eq_true, Bool.true_eq_false, ImXs_nil, true_or, or_true, false_or, false_and, and_false, rmK, rm1, List.map_append, List.map_cons, List.map_nil, List.cons_append, List.nil_append])
              all_goals (try (repeat' (first
                  | exact ltXs_nil
                  | (apply ltXs_map; intro _; exact ⟨rfl, rfl⟩)
                  | (apply imXs_map; intro _; exact ⟨rfl, rfl⟩)
                  | with_reducible apply imXs_append
                  | with_reducible refine imXs_cons ⟨rfl, rfl⟩ ?_
                  | exact imXs_nil
                  | with_reducible apply ltXs_append
                  | with_reducible refine ltXs_cons ⟨rfl, rfl, ?_⟩ ?_
                  | with_reducible apply And.intro
                  | exact ltCs_im rfl
                  | exact ltCs_im (by assumption)
                  | (refine ⟨⟨?_, rfl, ?_, rfl, ?_⟩, trivial⟩ <;> first | (simp; done) | (apply imXs_map; intro _; exact ⟨rfl, rfl⟩))
                  | trivial
                  | rfl
                  | (rw [i64_succ (by omega)])
                  | omega)))
            · refine C1.im (c_register_History r M (by omega) hr2) rfl (by rfl) ?_
              simp only [tl, tl2, isCallR, entX, argFr, ret, retI, retB, intT, unT, endR, ressR, resR, tupT, bslR, boxR, lenAll, ↓reduceIte, Nat.reduceEqDiff, Nat.reduceAdd, Nat.reduceMul, Nat.reduceLT, Nat.reduceLeDiff, reduceCtorEq, Int.reduceLE, Int.reduceLT, ne_eq, Int.reduceEq, not_false_eq_true, decide_true, decide_false, Int.reduceToNat, tl3, Int.reduceBNe, Int.reduceBEq, rmK, rm1, not_true_eq_false]
              refine C1.im (c_ref38_History r M (by omega) hr2) rfl (by rfl) ?_
              simp only [tl, tl2, isCallR, entX, argFr, ret, retI, retB, intT, unT, endR, ressR, resR, tupT, bslR, boxR, lenAll, ↓reduceIte, Nat.reduceEqDiff, Nat.reduceAdd, Nat.reduceMul, Nat.reduceLT, Nat.reduceLeDiff, reduceCtorEq, Int.reduceLE, Int.reduceLT, ne_eq, Int.reduceEq, not_false_eq_true, decide_true, decide_false, Int.reduceToNat, tl3, Int.reduceBNe, Int.reduceBEq, rmK, rm1, not_true_eq_false]
              have hhl : (histA r M).1.length < 4611686018427387904 := by
                unfold histA
                split
                · simp
                · split
                  · simp
                  · have := hist_len (l := r) M.toNat M.toNat
                    simp only [histN]
                    omega
              refine C1.im (c_ref28_Ints _ _ hhl hhl) rfl (by rfl) ?_
              simp only [tl, tl2, isCallR, entX, argFr, ret, retI, retB, intT, unT, endR, ressR, resR, tupT, bslR, boxR, lenAll, ↓reduceIte, Nat.reduceEqDiff, Nat.reduceAdd, Nat.reduceMul, Nat.reduceLT, Nat.reduceLeDiff, reduceCtorEq, Int.reduceLE, Int.reduceLT, ne_eq, Int.reduceEq, not_false_eq_true, decide_true, decide_false, Int.reduceToNat, tl3, Int.reduceBNe, Int.reduceBEq, rmK, rm1, not_true_eq_false, ints_true, bne_self_eq_false]
              refine ⟨m + 1, by omega, by omega, ?_⟩
              refine .of [(139276, some 139276)] [] rfl (by first | rfl | (rw [hst]; rfl)) ?_ ?_
              all_goals (try simp only [ltSto, ltO2, ltO1, ltAs, ltA, ltC, ltCs, ltT, ltFr, ltS, wrOk, wrO, TL.get, hasFr, ↓reduceIte, Nat.reduceEqDiff, reduceCtorEq, Option.getD_some, Option.isSome_some, List.length_map, List.length_append, List.length_cons, List.length_nil, List.append_nil, List.mem_singleton, List.mem_cons, List.not_mem_nil, and_true, true_and, and_self, imp_self, forall_const, false_implies, implies_true, true_implies, or_false, Bool.false_eq_true, Bool.true_eq_false, ImXs_nil, true_or, or_true, false_or, false_and, and_false, rmK, rm1, List.map_append, List.map_cons, List.map_nil, List.cons_append, List.nil_append])
              all_goals (try (repeat' (first
                  | exact ltXs_nil
                  | (apply ltXs_map; intro _; exact ⟨rfl, rfl⟩)
                  | (apply imXs_map; intro _; exact ⟨rfl, rfl⟩)
                  | with_reducible apply imXs_append
                  | with_reducible refine imXs_cons ⟨rfl, rfl⟩ ?_
                  | exact imXs_nil
                  | with_reducible apply ltXs_append
                  | with_reducible refine ltXs_cons ⟨rfl, rfl, ?_⟩ ?_
                  | with_reducible apply And.intro
                  | exact ltCs_im rfl
                  | exact ltCs_im (by assumption)
                  | (refine ⟨⟨?_, rfl, ?_, rfl, ?_⟩, trivial⟩ <;> first | (simp; done) | (apply imXs_map; intro _; exact ⟨rfl, rfl⟩))
                  | trivial
                  | rfl
                  | (rw [i64_succ (by omega)])
                  | omega)))
          · refine C1.im (c_register_Find r N (by omega) hr2) rfl (by rfl) ?_
            simp only [tl, tl2, isCallR, entX, argFr, ret, retI, retB, intT, unT, endR, ressR, resR, tupT, bslR, boxR, lenAll, ↓reduceIte, Nat.reduceEqDiff, Nat.reduceAdd, Nat.reduceMul, Nat.reduceLT, Nat.reduceLeDiff, reduceCtorEq, Int.reduceLE, Int.reduceLT, ne_eq, Int.reduceEq, not_false_eq_true, decide_true, decide_false, Int.reduceToNat, tl3, Int.reduceBNe, Int.reduceBEq, rmK, rm1, not_true_eq_false]
            refine C1.im (c_ref38_Find r N (by omega) hr2) rfl (by rfl) ?_
            simp only [tl, tl2, isCallR, entX, argFr, ret, retI, retB, intT, unT, endR, ressR, resR, tupT, bslR, boxR, lenAll, ↓reduceIte, Nat.reduceEqDiff, Nat.reduceAdd, Nat.reduceMul, Nat.reduceLT, Nat.reduceLeDiff, reduceCtorEq, Int.reduceLE, Int.reduceLT, ne_eq, Int.reduceEq, not_false_eq_true, decide_true, decide_false, Int.reduceToNat, tl3, Int.reduceBNe, Int.reduceBEq, rmK, rm1, not_true_eq_false, bne_self_eq_false]
            refine ⟨n + 1, by omega, by omega, ?_⟩
            refine .of [(139276, some 139276)] [] rfl (by first | rfl | (rw [hst]; rfl)) ?_ ?_
            all_goals (try simp only [ltSto, ltO2, ltO1, ltAs, ltA, ltC, ltCs, ltT, ltFr, ltS, wrOk, wrO, TL.get, hasFr, ↓reduceIte, Nat.reduceEqDiff, reduceCtorEq, Option.getD_some, Option.isSome_some, List.length_map, List.length_append, List.length_cons, List.length_nil, List.append_nil, List.mem_singleton, List.mem_cons, List.not_mem_nil, and_true, true_and, and_self, imp_self, forall_const, false_implies, implies_true, true_implies, or_false, Bool.false_eq_true, Bool.true_eq_false, ImXs_nil, true_or, or_true, false_or, false_and, and_false, rmK, rm1, List.map_append, List.map_cons, List.map_nil, List.cons_append, List.nil_append])
            all_goals (try (repeat' (first
                | exact ltXs_nil
                | (apply ltXs_map; intro _; exact ⟨rfl, rfl⟩)
                | (apply imXs_map; intro _; exact ⟨rfl, rfl⟩)
                | with_reducible apply imXs_append
                | with_reducible refine imXs_cons ⟨rfl, rfl⟩ ?_
                | exact imXs_nil
                | with_reducible apply ltXs_append
                | with_reducible refine ltXs_cons ⟨rfl, rfl, ?_⟩ ?_
                | with_reducible apply And.intro
                | exact ltCs_im rfl
                | exact ltCs_im (by assumption)
                | (refine ⟨⟨?_, rfl, ?_, rfl, ?_⟩, trivial⟩ <;> first | (simp; done) | (apply imXs_map; intro _; exact ⟨rfl, rfl⟩))
                | trivial
                | rfl
                | (rw [i64_succ (by omega)])
                | omega)))
        · refine ⟨a + 1, by omega, by omega, ?_⟩
          refine .of [(139276, some 139276)] [] rfl (by first | rfl | (rw [hst]; rfl)) ?_ ?_
          all_goals (try simp only [ltSto, ltO2, ltO1, ltAs, ltA, ltC, ltCs, ltT, ltFr, ltS, wrOk, wrO, TL.get, hasFr, ↓reduceIte, Nat.reduceEqDiff, reduceCtorEq, Option.getD_some, Option.isSome_some, List.length_map, List.length_append, List.length_cons, List.length_nil, List.append_nil, List.mem_singleton, List.mem_cons, List.not_mem_nil, and_true, true_and, and_self, imp_self, forall_const, false_implies, implies_true, true_implies, or_false, Bool.false_eq_true, Bool.true_eq_false, ImXs_nil, true_or, or_true, false_or, false_and, and_false, rmK, rm1, List.map_append, List.map_cons, List.map_nil, List.cons_append, List.nil_append])
          all_goals (try (repeat' (first
              | exact ltXs_nil
              | (apply ltXs_map; intro _; exact ⟨rfl, rfl⟩)
              | (apply imXs_map; intro _; exact ⟨rfl, rfl⟩)
              | with_reducible apply imXs_append
              | with_reducible refine imXs_cons ⟨rfl, rfl⟩ ?_
              | exact imXs_nil
              | with_reducible apply ltXs_append
              | with_reducible refine ltXs_cons ⟨rfl, rfl, ?_⟩ ?_
              | with_reducible apply And.intro
              | exact ltCs_im rfl
              | exact ltCs_im (by assumption)
              | (refine ⟨⟨?_, rfl, ?_, rfl, ?_⟩, trivial⟩ <;> first | (simp; done) | (apply imXs_map; intro _; exact ⟨rfl, rfl⟩))
              | trivial
              | rfl
              | (rw [i64_succ (by omega)])
              | omega)))
      · refine C1.im c_law38_awake rfl (by rfl) ?_
        simp only [tl, tl2, isCallR, entX, argFr, ret, retI, retB, intT, unT, endR, ressR, resR, tupT, bslR, boxR, lenAll, ↓reduceIte, Nat.reduceEqDiff, Nat.reduceAdd, Nat.reduceMul, Nat.reduceLT, Nat.reduceLeDiff, reduceCtorEq, Int.reduceLE, Int.reduceLT, ne_eq, Int.reduceEq, not_false_eq_true, decide_true, decide_false, Int.reduceToNat, tl3, Int.reduceBNe, Int.reduceBEq, rmK, rm1, not_true_eq_false]
        exact .imR rfl rfl
    · refine C1.im (c_draw_Mod kind 6 (by omega)) rfl (by rfl) ?_
      have hm6 := mod_range (n := kind) (m := 6) (by omega)
      have hw6 : IntKind.i64.wrap (modI kind 6 - 1) = modI kind 6 - 1 := IntWalk.i64_in _ (by omega)
      simp only [tl, tl2, isCallR, entX, argFr, ret, retI, retB, intT, unT, endR, ressR, resR, tupT, bslR, boxR, lenAll, ↓reduceIte, Nat.reduceEqDiff, Nat.reduceAdd, Nat.reduceMul, Nat.reduceLT, Nat.reduceLeDiff, reduceCtorEq, Int.reduceLE, Int.reduceLT, ne_eq, Int.reduceEq, not_false_eq_true, decide_true, decide_false, Int.reduceToNat, tl3, Int.reduceBNe, Int.reduceBEq, rmK, rm1, not_true_eq_false, Int.toNat_natCast, getD_mapT hkl, rp2, rpOk, ent_len, hw6]
      refine ⟨by omega, by omega, ?_⟩
      obtain ⟨y, hy⟩ : ∃ y, y = ({ L[k] with kind := modI kind 6 - 1 } : Ent) := ⟨_, rfl⟩
      rw [← hy]
      have hys : y.text.size ≤ 1000000000 := by rw [hy]; show L[k].text.size ≤ 1000000000; omega
      rw [← List.map_set]
      have hkl2 : k < (L.set k y).length := by rw [List.length_set]; exact hkl
      have hgy : (L.set k y)[k] = y := List.getElem_set_self _
      simp only [tl, tl2, isCallR, entX, argFr, ret, retI, retB, intT, unT, endR, ressR, resR, tupT, bslR, boxR, lenAll, ↓reduceIte, Nat.reduceEqDiff, Nat.reduceAdd, Nat.reduceMul, Nat.reduceLT, Nat.reduceLeDiff, reduceCtorEq, Int.reduceLE, Int.reduceLT, ne_eq, Int.reduceEq, not_false_eq_true, decide_true, decide_false, Int.reduceToNat, tl3, Int.reduceBNe, Int.reduceBEq, rmK, rm1, not_true_eq_false, Int.toNat_natCast, getD_mapT hkl2, hgy, List.length_map, List.length_set, ent_all, ent_len]
      refine ⟨by omega, by omega, ?_⟩
      refine C1.im (c_ref38_Link y hys) rfl (by rfl) ?_
      simp only [tl, tl2, isCallR, entX, argFr, ret, retI, retB, intT, unT, endR, ressR, resR, tupT, bslR, boxR, lenAll, ↓reduceIte, Nat.reduceEqDiff, Nat.reduceAdd, Nat.reduceMul, Nat.reduceLT, Nat.reduceLeDiff, reduceCtorEq, Int.reduceLE, Int.reduceLT, ne_eq, Int.reduceEq, not_false_eq_true, decide_true, decide_false, Int.reduceToNat, tl3, Int.reduceBNe, Int.reduceBEq, rmK, rm1, not_true_eq_false, Int.toNat_natCast, getD_mapT hkl2, hgy, List.length_map, List.length_set, rp6, rpOk, ent_len]
      refine ⟨by omega, by omega, ?_⟩
      rw [← List.map_set, List.set_set]
      obtain ⟨odd, ho⟩ : ∃ o, o = L.set k { y with link := linkI y } := ⟨_, rfl⟩
      rw [← ho]
      have hol : odd.length ≤ 8 := by rw [ho, List.length_set]; omega
      have hos : small odd := by rw [ho]; exact set_small hsm (by exact hys)
      have hoL : L.length = odd.length := by rw [ho, List.length_set]
      rw [hoL]
      clear ho
      refine C1.im (c_register_Sum b (by omega)) rfl (by rfl) ?_
      simp only [tl, tl2, isCallR, entX, argFr, ret, retI, retB, intT, unT, endR, ressR, resR, tupT, bslR, boxR, lenAll, ↓reduceIte, Nat.reduceEqDiff, Nat.reduceAdd, Nat.reduceMul, Nat.reduceLT, Nat.reduceLeDiff, reduceCtorEq, Int.reduceLE, Int.reduceLT, ne_eq, Int.reduceEq, not_false_eq_true, decide_true, decide_false, Int.reduceToNat, tl3, Int.reduceBNe, Int.reduceBEq, rmK, rm1, not_true_eq_false]
      refine C1.im (c_ref38_Sum b (by omega)) rfl (by rfl) ?_
      simp only [tl, tl2, isCallR, entX, argFr, ret, retI, retB, intT, unT, endR, ressR, resR, tupT, bslR, boxR, lenAll, ↓reduceIte, Nat.reduceEqDiff, Nat.reduceAdd, Nat.reduceMul, Nat.reduceLT, Nat.reduceLeDiff, reduceCtorEq, Int.reduceLE, Int.reduceLT, ne_eq, Int.reduceEq, not_false_eq_true, decide_true, decide_false, Int.reduceToNat, tl3, Int.reduceBNe, Int.reduceBEq, rmK, rm1, not_true_eq_false, bne_self_eq_false, entT]
      refine C2.im (fun _ => c_register_Link x (by omega)) (fun _ => rfl) (by rfl) ?_
      simp only [tl, tl2, isCallR, entX, argFr, ret, retI, retB, intT, unT, endR, ressR, resR, tupT, bslR, boxR, lenAll, ↓reduceIte, Nat.reduceEqDiff, Nat.reduceAdd, Nat.reduceMul, Nat.reduceLT, Nat.reduceLeDiff, reduceCtorEq, Int.reduceLE, Int.reduceLT, ne_eq, Int.reduceEq, not_false_eq_true, decide_true, decide_false, Int.reduceToNat, tl3, Int.reduceBNe, Int.reduceBEq, rmK, rm1, not_true_eq_false]
      refine C2.im (fun _ => c_ref38_Link x (by omega)) (fun _ => rfl) (by rfl) ?_
      simp only [tl, tl2, isCallR, entX, argFr, ret, retI, retB, intT, unT, endR, ressR, resR, tupT, bslR, boxR, lenAll, ↓reduceIte, Nat.reduceEqDiff, Nat.reduceAdd, Nat.reduceMul, Nat.reduceLT, Nat.reduceLeDiff, reduceCtorEq, Int.reduceLE, Int.reduceLT, ne_eq, Int.reduceEq, not_false_eq_true, decide_true, decide_false, Int.reduceToNat, tl3, Int.reduceBNe, Int.reduceBEq, rmK, rm1, not_true_eq_false, bne_self_eq_false]
      refine ⟨by kernel_rfl, ?_⟩
      obtain ⟨rs, hrs2⟩ : ∃ rs, rs = [raw, L, odd] := ⟨_, rfl⟩
      have hrl : rs.length = 3 := by rw [hrs2]; rfl
      have hrsa : ∀ r ∈ rs, r.length ≤ 20 ∧ small r := by
        intro r hr
        rw [hrs2] at hr
        simp only [List.mem_cons, List.not_mem_nil, or_false] at hr
        rcases hr with rfl | rfl | rfl
        · exact ⟨by omega, hraws⟩
        · exact ⟨by omega, hsm⟩
        · exact ⟨by omega, hos⟩
      refine W_loopF mixm (α := Nat) [190] (fun a => a ≤ 3) (fun a => [(190, vI a)]) (fun a => [(139276, .arr 1 (rs.map vEs) false)]) (fun a => 3 - a) 0 (by omega) ?_ fun a ha => ?_
      · refine .of [(139276, some 139276)] [49152] rfl (by first | rfl | (rw [hst]; rfl)) ?_ ?_
        all_goals (try simp only [ltSto, ltO2, ltO1, ltAs, ltA, ltC, ltCs, ltT, ltFr, ltS, wrOk, wrO, TL.get, hasFr, ↓reduceIte, Nat.reduceEqDiff, reduceCtorEq, Option.getD_some, Option.isSome_some, List.length_map, List.length_append, List.length_cons, List.length_nil, List.append_nil, List.mem_singleton, List.mem_cons, List.not_mem_nil, and_true, true_and, and_self, imp_self, forall_const, false_implies, implies_true, true_implies, or_false, Bool.false_eq_true, Bool.true_eq_false, ImXs_nil, true_or, or_true, false_or, false_and, and_false, rmK, rm1, List.map_append, List.map_cons, List.map_nil, List.cons_append, List.nil_append, hrs2, ltS, List.length_map])
        all_goals (try (repeat' (first
            | exact ltXs_nil
            | (apply ltXs_map; intro _; exact ⟨rfl, rfl⟩)
            | (apply imXs_map; intro _; exact ⟨rfl, rfl⟩)
            | with_reducible apply imXs_append
            | with_reducible refine imXs_cons ⟨rfl, rfl⟩ ?_
            | exact imXs_nil
            | with_reducible apply ltXs_append
            | with_reducible refine ltXs_cons ⟨rfl, rfl, ?_⟩ ?_
            | with_reducible apply And.intro
            | exact ltCs_im rfl
            | exact ltCs_im (by assumption)
            | (refine ⟨⟨?_, rfl, ?_, rfl, ?_⟩, trivial⟩ <;> first | (simp; done) | (apply imXs_map; intro _; exact ⟨rfl, rfl⟩))
            | trivial
            | rfl
            | (rw [i64_succ (by omega)])
            | omega)))
      simp only [tl, tl2, isCallR, entX, argFr, ret, retI, retB, intT, unT, endR, ressR, resR, tupT, bslR, boxR, lenAll, ↓reduceIte, Nat.reduceEqDiff, Nat.reduceAdd, Nat.reduceMul, Nat.reduceLT, Nat.reduceLeDiff, reduceCtorEq, Int.reduceLE, Int.reduceLT, ne_eq, Int.reduceEq, not_false_eq_true, decide_true, decide_false, Int.reduceToNat, tl3, Int.reduceBNe, Int.reduceBEq, rmK, rm1, not_true_eq_false, decide_eq_true_eq, decide_eq_false_iff_not]
      refine ⟨fun h => ?_, fun h => ?_⟩
      · have ha3 : a < rs.length := by omega
        obtain ⟨hr1, hr2⟩ := hrsa rs[a] (List.getElem_mem _)
        have hwa := i64_succ (i := a) (by omega)
        simp only [tl, tl2, isCallR, entX, argFr, ret, retI, retB, intT, unT, endR, ressR, resR, tupT, bslR, boxR, lenAll, ↓reduceIte, Nat.reduceEqDiff, Nat.reduceAdd, Nat.reduceMul, Nat.reduceLT, Nat.reduceLeDiff, reduceCtorEq, Int.reduceLE, Int.reduceLT, ne_eq, Int.reduceEq, not_false_eq_true, decide_true, decide_false, Int.reduceToNat, tl3, Int.reduceBNe, Int.reduceBEq, rmK, rm1, not_true_eq_false, Int.toNat_natCast, getD_mapT ha3, hrl, List.length_map]
        refine ⟨by omega, by omega, ?_⟩
        obtain ⟨r, hr⟩ : ∃ r, r = rs[a] := ⟨_, rfl⟩
        rw [← hr] at hr1 hr2 ⊢
        refine C1.im (c_register_Check r (by omega) hr2) rfl (by rfl) ?_
        simp only [tl, tl2, isCallR, entX, argFr, ret, retI, retB, intT, unT, endR, ressR, resR, tupT, bslR, boxR, lenAll, ↓reduceIte, Nat.reduceEqDiff, Nat.reduceAdd, Nat.reduceMul, Nat.reduceLT, Nat.reduceLeDiff, reduceCtorEq, Int.reduceLE, Int.reduceLT, ne_eq, Int.reduceEq, not_false_eq_true, decide_true, decide_false, Int.reduceToNat, tl3, Int.reduceBNe, Int.reduceBEq, rmK, rm1, not_true_eq_false]
        refine C1.im (c_ref38_Check r (by omega) hr2) rfl (by rfl) ?_
        simp only [tl, tl2, isCallR, entX, argFr, ret, retI, retB, intT, unT, endR, ressR, resR, tupT, bslR, boxR, lenAll, ↓reduceIte, Nat.reduceEqDiff, Nat.reduceAdd, Nat.reduceMul, Nat.reduceLT, Nat.reduceLeDiff, reduceCtorEq, Int.reduceLE, Int.reduceLT, ne_eq, Int.reduceEq, not_false_eq_true, decide_true, decide_false, Int.reduceToNat, tl3, Int.reduceBNe, Int.reduceBEq, rmK, rm1, not_true_eq_false, bne_self_eq_false]
        refine C2.im (fun _ => c_register_InForce r (by omega) hr2) (fun _ => rfl) (by rfl) ?_
        simp only [tl, tl2, isCallR, entX, argFr, ret, retI, retB, intT, unT, endR, ressR, resR, tupT, bslR, boxR, lenAll, ↓reduceIte, Nat.reduceEqDiff, Nat.reduceAdd, Nat.reduceMul, Nat.reduceLT, Nat.reduceLeDiff, reduceCtorEq, Int.reduceLE, Int.reduceLT, ne_eq, Int.reduceEq, not_false_eq_true, decide_true, decide_false, Int.reduceToNat, tl3, Int.reduceBNe, Int.reduceBEq, rmK, rm1, not_true_eq_false]
        refine C2.im (fun _ => c_ref38_InForce r (by omega) hr2) (fun _ => rfl) (by rfl) ?_
        have hfl : (forceA r).length ≤ 60 := by
          by_cases hc0 : chkI r = 0
          · exact forceA_len hc0
          · rw [forceA, if_neg hc0]; simp
        simp only [tl, tl2, isCallR, entX, argFr, ret, retI, retB, intT, unT, endR, ressR, resR, tupT, bslR, boxR, lenAll, ↓reduceIte, Nat.reduceEqDiff, Nat.reduceAdd, Nat.reduceMul, Nat.reduceLT, Nat.reduceLeDiff, reduceCtorEq, Int.reduceLE, Int.reduceLT, ne_eq, Int.reduceEq, not_false_eq_true, decide_true, decide_false, Int.reduceToNat, tl3, Int.reduceBNe, Int.reduceBEq, rmK, rm1, not_true_eq_false]
        refine C2.im (fun _ => c_ref28_Ints (forceA r) (forceA r) (by omega) (by omega)) (fun _ => rfl) (by rfl) ?_
        simp only [tl, tl2, isCallR, entX, argFr, ret, retI, retB, intT, unT, endR, ressR, resR, tupT, bslR, boxR, lenAll, ↓reduceIte, Nat.reduceEqDiff, Nat.reduceAdd, Nat.reduceMul, Nat.reduceLT, Nat.reduceLeDiff, reduceCtorEq, Int.reduceLE, Int.reduceLT, ne_eq, Int.reduceEq, not_false_eq_true, decide_true, decide_false, Int.reduceToNat, tl3, Int.reduceBNe, Int.reduceBEq, rmK, rm1, not_true_eq_false, ints_true]
        refine C1.im (c_draw_Mod out 9 (by omega)) rfl (by rfl) ?_
        simp only [tl, tl2, isCallR, entX, argFr, ret, retI, retB, intT, unT, endR, ressR, resR, tupT, bslR, boxR, lenAll, ↓reduceIte, Nat.reduceEqDiff, Nat.reduceAdd, Nat.reduceMul, Nat.reduceLT, Nat.reduceLeDiff, reduceCtorEq, Int.reduceLE, Int.reduceLT, ne_eq, Int.reduceEq, not_false_eq_true, decide_true, decide_false, Int.reduceToNat, tl3, Int.reduceBNe, Int.reduceBEq, rmK, rm1, not_true_eq_false]
        obtain ⟨ns, hns⟩ : ∃ ns, ns = [out, modI out 9] := ⟨_, rfl⟩
        have hnl : ns.length = 2 := by rw [hns]; rfl
        refine W_loopF mixm (α := Nat) [210, 212] (fun n => n ≤ 2) (fun n => [(210, vIs ns), (212, vI n)]) (fun n => [(139276, .arr 1 (rs.map vEs) false)]) (fun n => 2 - n) 0 (by omega) ?_ fun n hn => ?_
        · refine .of [(139276, some 139276)] [159756] rfl (by first | rfl | (rw [hst]; rfl)) ?_ ?_
          all_goals (try simp only [ltSto, ltO2, ltO1, ltAs, ltA, ltC, ltCs, ltT, ltFr, ltS, wrOk, wrO, TL.get, hasFr, ↓reduceIte, Nat.reduceEqDiff, reduceCtorEq, Option.getD_some, Option.isSome_some, List.length_map, List.length_append, List.length_cons, List.length_nil, List.append_nil, List.mem_singleton, List.mem_cons, List.not_mem_nil, and_true, true_and, and_self, imp_self, forall_const, false_implies, implies_true, true_implies, or_false, Bool.false_eq_true, Bool.true_eq_false, ImXs_nil, true_or, or_true, false_or, false_and, and_false, rmK, rm1, List.map_append, List.map_cons, List.map_nil, List.cons_append, List.nil_append, hns, ltS])
          all_goals (try (repeat' (first
              | exact ltXs_nil
              | (apply ltXs_map; intro _; exact ⟨rfl, rfl⟩)
              | (apply imXs_map; intro _; exact ⟨rfl, rfl⟩)
              | with_reducible apply imXs_append
              | with_reducible refine imXs_cons ⟨rfl, rfl⟩ ?_
              | exact imXs_nil
              | with_reducible apply ltXs_append
              | with_reducible refine ltXs_cons ⟨rfl, rfl, ?_⟩ ?_
              | with_reducible apply And.intro
              | exact ltCs_im rfl
              | exact ltCs_im (by assumption)
              | (refine ⟨⟨?_, rfl, ?_, rfl, ?_⟩, trivial⟩ <;> first | (simp; done) | (apply imXs_map; intro _; exact ⟨rfl, rfl⟩))
              | trivial
              | rfl
              | (rw [i64_succ (by omega)])
              | omega)))
        simp only [tl, tl2, isCallR, entX, argFr, ret, retI, retB, intT, unT, endR, ressR, resR, tupT, bslR, boxR, lenAll, ↓reduceIte, Nat.reduceEqDiff, Nat.reduceAdd, Nat.reduceMul, Nat.reduceLT, Nat.reduceLeDiff, reduceCtorEq, Int.reduceLE, Int.reduceLT, ne_eq, Int.reduceEq, not_false_eq_true, decide_true, decide_false, Int.reduceToNat, tl3, Int.reduceBNe, Int.reduceBEq, rmK, rm1, not_true_eq_false, decide_eq_true_eq, decide_eq_false_iff_not]
        refine ⟨fun h => ?_, fun h => ?_⟩
        · have hn3 : n < ns.length := by omega
          have hwn := i64_succ (i := n) (by omega)
          simp only [tl, tl2, isCallR, entX, argFr, ret, retI, retB, intT, unT, endR, ressR, resR, tupT, bslR, boxR, lenAll, ↓reduceIte, Nat.reduceEqDiff, Nat.reduceAdd, Nat.reduceMul, Nat.reduceLT, Nat.reduceLeDiff, reduceCtorEq, Int.reduceLE, Int.reduceLT, ne_eq, Int.reduceEq, not_false_eq_true, decide_true, decide_false, Int.reduceToNat, tl3, Int.reduceBNe, Int.reduceBEq, rmK, rm1, not_true_eq_false, Int.toNat_natCast, getD_mapT hn3, hnl]
          refine ⟨by omega, ?_⟩
          obtain ⟨N, hN⟩ : ∃ N, N = ns[n] := ⟨_, rfl⟩
          rw [← hN]
          refine C1.im (c_draw_Mod of_ 9 (by omega)) rfl (by rfl) ?_
          simp only [tl, tl2, isCallR, entX, argFr, ret, retI, retB, intT, unT, endR, ressR, resR, tupT, bslR, boxR, lenAll, ↓reduceIte, Nat.reduceEqDiff, Nat.reduceAdd, Nat.reduceMul, Nat.reduceLT, Nat.reduceLeDiff, reduceCtorEq, Int.reduceLE, Int.reduceLT, ne_eq, Int.reduceEq, not_false_eq_true, decide_true, decide_false, Int.reduceToNat, tl3, Int.reduceBNe, Int.reduceBEq, rmK, rm1, not_true_eq_false]
          obtain ⟨ms, hms⟩ : ∃ ns, ns = [of_, modI of_ 9] := ⟨_, rfl⟩
          have hml : ms.length = 2 := by rw [hms]; rfl
          refine W_loopF mixm (α := Nat) [219, 221] (fun m => m ≤ 2) (fun m => [(219, vIs ms), (221, vI m)]) (fun m => [(139276, .arr 1 (rs.map vEs) false)]) (fun m => 2 - m) 0 (by omega) ?_ fun m hm => ?_
          · refine .of [(139276, some 139276)] [172044] rfl (by first | rfl | (rw [hst]; rfl)) ?_ ?_
            all_goals (try simp only [ltSto, ltO2, ltO1, ltAs, ltA, ltC, ltCs, ltT, ltFr, ltS, wrOk, wrO, TL.get, hasFr, ↓reduceIte, Nat.reduceEqDiff, reduceCtorEq, Option.getD_some, Option.isSome_some, List.length_map, List.length_append, List.length_cons, List.length_nil, List.append_nil, List.mem_singleton, List.mem_cons, List.not_mem_nil, and_true, true_and, and_self, imp_self, forall_const, false_implies, implies_true, true_implies, or_false, Bool.false_eq_true, Bool.true_eq_false, ImXs_nil, true_or, or_true, false_or, false_and, and_false, rmK, rm1, List.map_append, List.map_cons, List.map_nil, List.cons_append, List.nil_append, hms, ltS])
            all_goals (try (repeat' (first
                | exact ltXs_nil
                | (apply ltXs_map; intro _; exact ⟨rfl, rfl⟩)
                | (apply imXs_map; intro _; exact ⟨rfl, rfl⟩)
                | with_reducible apply imXs_append
                | with_reducible refine imXs_cons ⟨rfl, rfl⟩ ?_
                | exact imXs_nil
                | with_reducible apply ltXs_append
                | with_reducible refine ltXs_cons ⟨rfl, rfl, ?_⟩ ?_
                | with_reducible apply And.intro
                | exact ltCs_im rfl
                | exact ltCs_im (by assumption)
                | (refine ⟨⟨?_, rfl, ?_, rfl, ?_⟩, trivial⟩ <;> first | (simp; done) | (apply imXs_map; intro _; exact ⟨rfl, rfl⟩))
                | trivial
                | rfl
                | (rw [i64_succ (by omega)])
                | omega)))
          simp only [tl, tl2, isCallR, entX, argFr, ret, retI, retB, intT, unT, endR, ressR, resR, tupT, bslR, boxR, lenAll, ↓reduceIte, Nat.reduceEqDiff, Nat.reduceAdd, Nat.reduceMul, Nat.reduceLT, Nat.reduceLeDiff, reduceCtorEq, Int.reduceLE, Int.reduceLT, ne_eq, Int.reduceEq, not_false_eq_true, decide_true, decide_false, Int.reduceToNat, tl3, Int.reduceBNe, Int.reduceBEq, rmK, rm1, not_true_eq_false, decide_eq_true_eq, decide_eq_false_iff_not]
          refine ⟨fun h => ?_, fun h => ?_⟩
          · have hm3 : m < ms.length := by omega
            have hwm := i64_succ (i := m) (by omega)
            simp only [tl, tl2, isCallR, entX, argFr, ret, retI, retB, intT, unT, endR, ressR, resR, tupT, bslR, boxR, lenAll, ↓reduceIte, Nat.reduceEqDiff, Nat.reduceAdd, Nat.reduceMul, Nat.reduceLT, Nat.reduceLeDiff, reduceCtorEq, Int.reduceLE, Int.reduceLT, ne_eq, Int.reduceEq, not_false_eq_true, decide_true, decide_false, Int.reduceToNat, tl3, Int.reduceBNe, Int.reduceBEq, rmK, rm1, not_true_eq_false, Int.toNat_natCast, getD_mapT hm3, hml]
            refine ⟨by omega, ?_⟩
            obtain ⟨M, hM⟩ : ∃ N, N = ms[m] := ⟨_, rfl⟩
            rw [← hM]
            refine C1.im (c_draw_Mod kind 3 (by omega)) rfl (by rfl) ?_
            have hm6 := mod_range (n := kind) (m := 3) (by omega)
            have hw6 : IntKind.i64.wrap (1 + modI kind 3) = 1 + modI kind 3 := IntWalk.i64_in _ (by omega)
            simp only [tl, tl2, isCallR, entX, argFr, ret, retI, retB, intT, unT, endR, ressR, resR, tupT, bslR, boxR, lenAll, ↓reduceIte, Nat.reduceEqDiff, Nat.reduceAdd, Nat.reduceMul, Nat.reduceLT, Nat.reduceLeDiff, reduceCtorEq, Int.reduceLE, Int.reduceLT, ne_eq, Int.reduceEq, not_false_eq_true, decide_true, decide_false, Int.reduceToNat, tl3, Int.reduceBNe, Int.reduceBEq, rmK, rm1, not_true_eq_false, hw6]
            obtain ⟨ks, hks⟩ : ∃ ns, ns = [kind, 1 + modI kind 3] := ⟨_, rfl⟩
            have hkl' : ks.length = 2 := by rw [hks]; rfl
            refine W_loopF mixm (α := Nat) [229, 231] (fun q => q ≤ 2) (fun q => [(229, vIs ks), (231, vI q)]) (fun q => [(139276, .arr 1 (rs.map vEs) false)]) (fun q => 2 - q) 0 (by omega) ?_ fun q hq => ?_
            · refine .of [(139276, some 139276)] [184336] rfl (by first | rfl | (rw [hst]; rfl)) ?_ ?_
              all_goals (try simp only [ltSto, ltO2, ltO1, ltAs, ltA, ltC, ltCs, ltT, ltFr, ltS, wrOk, wrO, TL.get, hasFr, ↓reduceIte, Nat.reduceEqDiff, reduceCtorEq, Option.getD_some, Option.isSome_some, List.length_map, List.length_append, List.length_cons, List.length_nil, List.append_nil, List.mem_singleton, List.mem_cons, List.not_mem_nil, and_true, true_and, and_self, imp_self, forall_const, false_implies, implies_true, true_implies, or_false, Bool.false_eq_true, Bool.true_eq_false, ImXs_nil, true_or, or_true, false_or, false_and, and_false, rmK, rm1, List.map_append, List.map_cons, List.map_nil, List.cons_append, List.nil_append, hks, ltS])
              all_goals (try (repeat' (first
                  | exact ltXs_nil
                  | (apply ltXs_map; intro _; exact ⟨rfl, rfl⟩)
                  | (apply imXs_map; intro _; exact ⟨rfl, rfl⟩)
                  | with_reducible apply imXs_append
                  | with_reducible refine imXs_cons ⟨rfl, rfl⟩ ?_
                  | exact imXs_nil
                  | with_reducible apply ltXs_append
                  | with_reducible refine ltXs_cons ⟨rfl, rfl, ?_⟩ ?_
                  | with_reducible apply And.intro
                  | exact ltCs_im rfl
                  | exact ltCs_im (by assumption)
                  | (refine ⟨⟨?_, rfl, ?_, rfl, ?_⟩, trivial⟩ <;> first | (simp; done) | (apply imXs_map; intro _; exact ⟨rfl, rfl⟩))
                  | trivial
                  | rfl
                  | (rw [i64_succ (by omega)])
                  | omega)))
            simp only [tl, tl2, isCallR, entX, argFr, ret, retI, retB, intT, unT, endR, ressR, resR, tupT, bslR, boxR, lenAll, ↓reduceIte, Nat.reduceEqDiff, Nat.reduceAdd, Nat.reduceMul, Nat.reduceLT, Nat.reduceLeDiff, reduceCtorEq, Int.reduceLE, Int.reduceLT, ne_eq, Int.reduceEq, not_false_eq_true, decide_true, decide_false, Int.reduceToNat, tl3, Int.reduceBNe, Int.reduceBEq, rmK, rm1, not_true_eq_false, decide_eq_true_eq, decide_eq_false_iff_not]
            refine ⟨fun h => ?_, fun h => ?_⟩
            · have hq3 : q < ks.length := by omega
              have hwq := i64_succ (i := q) (by omega)
              simp only [tl, tl2, isCallR, entX, argFr, ret, retI, retB, intT, unT, endR, ressR, resR, tupT, bslR, boxR, lenAll, ↓reduceIte, Nat.reduceEqDiff, Nat.reduceAdd, Nat.reduceMul, Nat.reduceLT, Nat.reduceLeDiff, reduceCtorEq, Int.reduceLE, Int.reduceLT, ne_eq, Int.reduceEq, not_false_eq_true, decide_true, decide_false, Int.reduceToNat, tl3, Int.reduceBNe, Int.reduceBEq, rmK, rm1, not_true_eq_false, Int.toNat_natCast, getD_mapT hq3, hkl']
              refine ⟨by omega, ?_⟩
              refine C1.im (c_register_Add r ks[q] M N text (by omega) hr2) rfl (by rfl) ?_
              simp only [tl, tl2, isCallR, entX, argFr, ret, retI, retB, intT, unT, endR, ressR, resR, tupT, bslR, boxR, lenAll, ↓reduceIte, Nat.reduceEqDiff, Nat.reduceAdd, Nat.reduceMul, Nat.reduceLT, Nat.reduceLeDiff, reduceCtorEq, Int.reduceLE, Int.reduceLT, ne_eq, Int.reduceEq, not_false_eq_true, decide_true, decide_false, Int.reduceToNat, tl3, Int.reduceBNe, Int.reduceBEq, rmK, rm1, not_true_eq_false]
              refine C1.im (c_ref38_Add r ks[q] M N text (by omega) hr2) rfl (by rfl) ?_
              simp only [tl, tl2, isCallR, entX, argFr, ret, retI, retB, intT, unT, endR, ressR, resR, tupT, bslR, boxR, lenAll, ↓reduceIte, Nat.reduceEqDiff, Nat.reduceAdd, Nat.reduceMul, Nat.reduceLT, Nat.reduceLeDiff, reduceCtorEq, Int.reduceLE, Int.reduceLT, ne_eq, Int.reduceEq, not_false_eq_true, decide_true, decide_false, Int.reduceToNat, tl3, Int.reduceBNe, Int.reduceBEq, rmK, rm1, not_true_eq_false]
              have hal : (addA r ks[q] M N text).1.length ≤ 21 := by
                unfold addA
                split
                · simp only; omega
                · split
                  · simp only; omega
                  · split
                    · simp only; omega
                    · simp; omega
              refine C1.im (c_ref38_Same _ _ (by omega) (by omega)) rfl (by rfl) ?_
              simp only [tl, tl2, isCallR, entX, argFr, ret, retI, retB, intT, unT, endR, ressR, resR, tupT, bslR, boxR, lenAll, ↓reduceIte, Nat.reduceEqDiff, Nat.reduceAdd, Nat.reduceMul, Nat.reduceLT, Nat.reduceLeDiff, reduceCtorEq, Int.reduceLE, Int.reduceLT, ne_eq, Int.reduceEq, not_false_eq_true, decide_true, decide_false, Int.reduceToNat, tl3, Int.reduceBNe, Int.reduceBEq, rmK, rm1, not_true_eq_false, same_true, bne_self_eq_false]
              refine ⟨q + 1, by omega, by omega, ?_⟩
              refine .of [(139276, some 139276)] [] rfl (by first | rfl | (rw [hst]; rfl)) ?_ ?_
              all_goals (try simp only [ltSto, ltO2, ltO1, ltAs, ltA, ltC, ltCs, ltT, ltFr, ltS, wrOk, wrO, TL.get, hasFr, ↓reduceIte, Nat.reduceEqDiff, reduceCtorEq, Option.getD_some, Option.isSome_some, List.length_map, List.length_append, List.length_cons, List.length_nil, List.append_nil, List.mem_singleton, List.mem_cons, List.not_mem_nil, and_true, true_and, and_self, imp_self, forall_const, false_implies, implies_true, true_implies, or_false, Bool.false_eq_true, Bool.true_eq_false, ImXs_nil, true_or, or_true, false_or, false_and, and_false, rmK, rm1, List.map_append, List.map_cons, List.map_nil, List.cons_append, List.nil_append])
              all_goals (try (repeat' (first
                  | exact ltXs_nil
                  | (apply ltXs_map; intro _; exact ⟨rfl, rfl⟩)
                  | (apply imXs_map; intro _; exact ⟨rfl, rfl⟩)
                  | with_reducible apply imXs_append
                  | with_reducible refine imXs_cons ⟨rfl, rfl⟩ ?_
                  | exact imXs_nil
                  | with_reducible apply ltXs_append
                  | with_reducible refine ltXs_cons ⟨rfl, rfl, ?_⟩ ?_
                  | with_reducible apply And.intro
                  | exact ltCs_im rfl
                  | exact ltCs_im (by assumption)
                  | (refine ⟨⟨?_, rfl, ?_, rfl, ?_⟩, trivial⟩ <;> first | (simp; done) | (apply imXs_map; intro _; exact ⟨rfl, rfl⟩))
                  | trivial
                  | rfl
                  | (rw [i64_succ (by omega)])
                  | omega)))
            · refine C1.im (c_register_History r M (by omega) hr2) rfl (by rfl) ?_
              simp only [tl, tl2, isCallR, entX, argFr, ret, retI, retB, intT, unT, endR, ressR, resR, tupT, bslR, boxR, lenAll, ↓reduceIte, Nat.reduceEqDiff, Nat.reduceAdd, Nat.reduceMul, Nat.reduceLT, Nat.reduceLeDiff, reduceCtorEq, Int.reduceLE, Int.reduceLT, ne_eq, Int.reduceEq, not_false_eq_true, decide_true, decide_false, Int.reduceToNat, tl3, Int.reduceBNe, Int.reduceBEq, rmK, rm1, not_true_eq_false]
              refine C1.im (c_ref38_History r M (by omega) hr2) rfl (by rfl) ?_
              simp only [tl, tl2, isCallR, entX, argFr, ret, retI, retB, intT, unT, endR, ressR, resR, tupT, bslR, boxR, lenAll, ↓reduceIte, Nat.reduceEqDiff, Nat.reduceAdd, Nat.reduceMul, Nat.reduceLT, Nat.reduceLeDiff, reduceCtorEq, Int.reduceLE, Int.reduceLT, ne_eq, Int.reduceEq, not_false_eq_true, decide_true, decide_false, Int.reduceToNat, tl3, Int.reduceBNe, Int.reduceBEq, rmK, rm1, not_true_eq_false]
              have hhl : (histA r M).1.length < 4611686018427387904 := by
                unfold histA
                split
                · simp
                · split
                  · simp
                  · have := hist_len (l := r) M.toNat M.toNat
                    simp only [histN]
                    omega
              refine C1.im (c_ref28_Ints _ _ hhl hhl) rfl (by rfl) ?_
              simp only [tl, tl2, isCallR, entX, argFr, ret, retI, retB, intT, unT, endR, ressR, resR, tupT, bslR, boxR, lenAll, ↓reduceIte, Nat.reduceEqDiff, Nat.reduceAdd, Nat.reduceMul, Nat.reduceLT, Nat.reduceLeDiff, reduceCtorEq, Int.reduceLE, Int.reduceLT, ne_eq, Int.reduceEq, not_false_eq_true, decide_true, decide_false, Int.reduceToNat, tl3, Int.reduceBNe, Int.reduceBEq, rmK, rm1, not_true_eq_false, ints_true, bne_self_eq_false]
              refine ⟨m + 1, by omega, by omega, ?_⟩
              refine .of [(139276, some 139276)] [] rfl (by first | rfl | (rw [hst]; rfl)) ?_ ?_
              all_goals (try simp only [ltSto, ltO2, ltO1, ltAs, ltA, ltC, ltCs, ltT, ltFr, ltS, wrOk, wrO, TL.get, hasFr, ↓reduceIte, Nat.reduceEqDiff, reduceCtorEq, Option.getD_some, Option.isSome_some, List.length_map, List.length_append, List.length_cons, List.length_nil, List.append_nil, List.mem_singleton, List.mem_cons, List.not_mem_nil, and_true, true_and, and_self, imp_self, forall_const, false_implies, implies_true, true_implies, or_false, Bool.false_eq_true, Bool.true_eq_false, ImXs_nil, true_or, or_true, false_or, false_and, and_false, rmK, rm1, List.map_append, List.map_cons, List.map_nil, List.cons_append, List.nil_append])
              all_goals (try (repeat' (first
                  | exact ltXs_nil
                  | (apply ltXs_map; intro _; exact ⟨rfl, rfl⟩)
                  | (apply imXs_map; intro _; exact ⟨rfl, rfl⟩)
                  | with_reducible apply imXs_append
                  | with_reducible refine imXs_cons ⟨rfl, rfl⟩ ?_
                  | exact imXs_nil
                  | with_reducible apply ltXs_append
                  | with_reducible refine ltXs_cons ⟨rfl, rfl, ?_⟩ ?_
                  | with_reducible apply And.intro
                  | exact ltCs_im rfl
                  | exact ltCs_im (by assumption)
                  | (refine ⟨⟨?_, rfl, ?_, rfl, ?_⟩, trivial⟩ <;> first | (simp; done) | (apply imXs_map; intro _; exact ⟨rfl, rfl⟩))
                  | trivial
                  | rfl
                  | (rw [i64_succ (by omega)])
                  | omega)))
          · refine C1.im (c_register_Find r N (by omega) hr2) rfl (by rfl) ?_
            simp only [tl, tl2, isCallR, entX, argFr, ret, retI, retB, intT, unT, endR, ressR, resR, tupT, bslR, boxR, lenAll, ↓reduceIte, Nat.reduceEqDiff, Nat.reduceAdd, Nat.reduceMul, Nat.reduceLT, Nat.reduceLeDiff, reduceCtorEq, Int.reduceLE, Int.reduceLT, ne_eq, Int.reduceEq, not_false_eq_true, decide_true, decide_false, Int.reduceToNat, tl3, Int.reduceBNe, Int.reduceBEq, rmK, rm1, not_true_eq_false]
            refine C1.im (c_ref38_Find r N (by omega) hr2) rfl (by rfl) ?_
            simp only [tl, tl2, isCallR, entX, argFr, ret, retI, retB, intT, unT, endR, ressR, resR, tupT, bslR, boxR, lenAll, ↓reduceIte, Nat.reduceEqDiff, Nat.reduceAdd, Nat.reduceMul, Nat.reduceLT, Nat.reduceLeDiff, reduceCtorEq, Int.reduceLE, Int.reduceLT, ne_eq, Int.reduceEq, not_false_eq_true, decide_true, decide_false, Int.reduceToNat, tl3, Int.reduceBNe, Int.reduceBEq, rmK, rm1, not_true_eq_false, bne_self_eq_false]
            refine ⟨n + 1, by omega, by omega, ?_⟩
            refine .of [(139276, some 139276)] [] rfl (by first | rfl | (rw [hst]; rfl)) ?_ ?_
            all_goals (try simp only [ltSto, ltO2, ltO1, ltAs, ltA, ltC, ltCs, ltT, ltFr, ltS, wrOk, wrO, TL.get, hasFr, ↓reduceIte, Nat.reduceEqDiff, reduceCtorEq, Option.getD_some, Option.isSome_some, List.length_map, List.length_append, List.length_cons, List.length_nil, List.append_nil, List.mem_singleton, List.mem_cons, List.not_mem_nil, and_true, true_and, and_self, imp_self, forall_const, false_implies, implies_true, true_implies, or_false, Bool.false_eq_true, Bool.true_eq_false, ImXs_nil, true_or, or_true, false_or, false_and, and_false, rmK, rm1, List.map_append, List.map_cons, List.map_nil, List.cons_append, List.nil_append])
            all_goals (try (repeat' (first
                | exact ltXs_nil
                | (apply ltXs_map; intro _; exact ⟨rfl, rfl⟩)
                | (apply imXs_map; intro _; exact ⟨rfl, rfl⟩)
                | with_reducible apply imXs_append
                | with_reducible refine imXs_cons ⟨rfl, rfl⟩ ?_
                | exact imXs_nil
                | with_reducible apply ltXs_append
                | with_reducible refine ltXs_cons ⟨rfl, rfl, ?_⟩ ?_
                | with_reducible apply And.intro
                | exact ltCs_im rfl
                | exact ltCs_im (by assumption)
                | (refine ⟨⟨?_, rfl, ?_, rfl, ?_⟩, trivial⟩ <;> first | (simp; done) | (apply imXs_map; intro _; exact ⟨rfl, rfl⟩))
                | trivial
                | rfl
                | (rw [i64_succ (by omega)])
                | omega)))
        · refine ⟨a + 1, by omega, by omega, ?_⟩
          refine .of [(139276, some 139276)] [] rfl (by first | rfl | (rw [hst]; rfl)) ?_ ?_
          all_goals (try simp only [ltSto, ltO2, ltO1, ltAs, ltA, ltC, ltCs, ltT, ltFr, ltS, wrOk, wrO, TL.get, hasFr, ↓reduceIte, Nat.reduceEqDiff, reduceCtorEq, Option.getD_some, Option.isSome_some, List.length_map, List.length_append, List.length_cons, List.length_nil, List.append_nil, List.mem_singleton, List.mem_cons, List.not_mem_nil, and_true, true_and, and_self, imp_self, forall_const, false_implies, implies_true, true_implies, or_false, Bool.false_eq_true, Bool.true_eq_false, ImXs_nil, true_or, or_true, false_or, false_and, and_false, rmK, rm1, List.map_append, List.map_cons, List.map_nil, List.cons_append, List.nil_append])
          all_goals (try (repeat' (first
              | exact ltXs_nil
              | (apply ltXs_map; intro _; exact ⟨rfl, rfl⟩)
              | (apply imXs_map; intro _; exact ⟨rfl, rfl⟩)
              | with_reducible apply imXs_append
              | with_reducible refine imXs_cons ⟨rfl, rfl⟩ ?_
              | exact imXs_nil
              | with_reducible apply ltXs_append
              | with_reducible refine ltXs_cons ⟨rfl, rfl, ?_⟩ ?_
              | with_reducible apply And.intro
              | exact ltCs_im rfl
              | exact ltCs_im (by assumption)
              | (refine ⟨⟨?_, rfl, ?_, rfl, ?_⟩, trivial⟩ <;> first | (simp; done) | (apply imXs_map; intro _; exact ⟨rfl, rfl⟩))
              | trivial
              | rfl
              | (rw [i64_succ (by omega)])
              | omega)))
      · refine C1.im c_law38_awake rfl (by rfl) ?_
        simp only [tl, tl2, isCallR, entX, argFr, ret, retI, retB, intT, unT, endR, ressR, resR, tupT, bslR, boxR, lenAll, ↓reduceIte, Nat.reduceEqDiff, Nat.reduceAdd, Nat.reduceMul, Nat.reduceLT, Nat.reduceLeDiff, reduceCtorEq, Int.reduceLE, Int.reduceLT, ne_eq, Int.reduceEq, not_false_eq_true, decide_true, decide_false, Int.reduceToNat, tl3, Int.reduceBNe, Int.reduceBEq, rmK, rm1, not_true_eq_false]
        exact .imR rfl rfl
    · refine C1.im (c_draw_Mod out 9 (by omega)) rfl (by rfl) ?_
      simp only [tl, tl2, isCallR, entX, argFr, ret, retI, retB, intT, unT, endR, ressR, resR, tupT, bslR, boxR, lenAll, ↓reduceIte, Nat.reduceEqDiff, Nat.reduceAdd, Nat.reduceMul, Nat.reduceLT, Nat.reduceLeDiff, reduceCtorEq, Int.reduceLE, Int.reduceLT, ne_eq, Int.reduceEq, not_false_eq_true, decide_true, decide_false, Int.reduceToNat, tl3, Int.reduceBNe, Int.reduceBEq, rmK, rm1, not_true_eq_false, Int.toNat_natCast, getD_mapT hkl, rp4, rpOk, ent_len]
      refine ⟨by omega, by omega, ?_⟩
      obtain ⟨y, hy⟩ : ∃ y, y = ({ L[k] with out := modI out 9 } : Ent) := ⟨_, rfl⟩
      rw [← hy]
      have hys : y.text.size ≤ 1000000000 := by rw [hy]; show L[k].text.size ≤ 1000000000; omega
      rw [← List.map_set]
      have hkl2 : k < (L.set k y).length := by rw [List.length_set]; exact hkl
      have hgy : (L.set k y)[k] = y := List.getElem_set_self _
      simp only [tl, tl2, isCallR, entX, argFr, ret, retI, retB, intT, unT, endR, ressR, resR, tupT, bslR, boxR, lenAll, ↓reduceIte, Nat.reduceEqDiff, Nat.reduceAdd, Nat.reduceMul, Nat.reduceLT, Nat.reduceLeDiff, reduceCtorEq, Int.reduceLE, Int.reduceLT, ne_eq, Int.reduceEq, not_false_eq_true, decide_true, decide_false, Int.reduceToNat, tl3, Int.reduceBNe, Int.reduceBEq, rmK, rm1, not_true_eq_false, Int.toNat_natCast, getD_mapT hkl2, hgy, List.length_map, List.length_set, ent_all, ent_len]
      refine ⟨by omega, by omega, ?_⟩
      refine C1.im (c_ref38_Link y hys) rfl (by rfl) ?_
      simp only [tl, tl2, isCallR, entX, argFr, ret, retI, retB, intT, unT, endR, ressR, resR, tupT, bslR, boxR, lenAll, ↓reduceIte, Nat.reduceEqDiff, Nat.reduceAdd, Nat.reduceMul, Nat.reduceLT, Nat.reduceLeDiff, reduceCtorEq, Int.reduceLE, Int.reduceLT, ne_eq, Int.reduceEq, not_false_eq_true, decide_true, decide_false, Int.reduceToNat, tl3, Int.reduceBNe, Int.reduceBEq, rmK, rm1, not_true_eq_false, Int.toNat_natCast, getD_mapT hkl2, hgy, List.length_map, List.length_set, rp6, rpOk, ent_len]
      refine ⟨by omega, by omega, ?_⟩
      rw [← List.map_set, List.set_set]
      obtain ⟨odd, ho⟩ : ∃ o, o = L.set k { y with link := linkI y } := ⟨_, rfl⟩
      rw [← ho]
      have hol : odd.length ≤ 8 := by rw [ho, List.length_set]; omega
      have hos : small odd := by rw [ho]; exact set_small hsm (by exact hys)
      have hoL : L.length = odd.length := by rw [ho, List.length_set]
      rw [hoL]
      clear ho
      refine C1.im (c_register_Sum b (by omega)) rfl (by rfl) ?_
      simp only [tl, tl2, isCallR, entX, argFr, ret, retI, retB, intT, unT, endR, ressR, resR, tupT, bslR, boxR, lenAll, ↓reduceIte, Nat.reduceEqDiff, Nat.reduceAdd, Nat.reduceMul, Nat.reduceLT, Nat.reduceLeDiff, reduceCtorEq, Int.reduceLE, Int.reduceLT, ne_eq, Int.reduceEq, not_false_eq_true, decide_true, decide_false, Int.reduceToNat, tl3, Int.reduceBNe, Int.reduceBEq, rmK, rm1, not_true_eq_false]
      refine C1.im (c_ref38_Sum b (by omega)) rfl (by rfl) ?_
      simp only [tl, tl2, isCallR, entX, argFr, ret, retI, retB, intT, unT, endR, ressR, resR, tupT, bslR, boxR, lenAll, ↓reduceIte, Nat.reduceEqDiff, Nat.reduceAdd, Nat.reduceMul, Nat.reduceLT, Nat.reduceLeDiff, reduceCtorEq, Int.reduceLE, Int.reduceLT, ne_eq, Int.reduceEq, not_false_eq_true, decide_true, decide_false, Int.reduceToNat, tl3, Int.reduceBNe, Int.reduceBEq, rmK, rm1, not_true_eq_false, bne_self_eq_false, entT]
      refine C2.im (fun _ => c_register_Link x (by omega)) (fun _ => rfl) (by rfl) ?_
      simp only [tl, tl2, isCallR, entX, argFr, ret, retI, retB, intT, unT, endR, ressR, resR, tupT, bslR, boxR, lenAll, ↓reduceIte, Nat.reduceEqDiff, Nat.reduceAdd, Nat.reduceMul, Nat.reduceLT, Nat.reduceLeDiff, reduceCtorEq, Int.reduceLE, Int.reduceLT, ne_eq, Int.reduceEq, not_false_eq_true, decide_true, decide_false, Int.reduceToNat, tl3, Int.reduceBNe, Int.reduceBEq, rmK, rm1, not_true_eq_false]
      refine C2.im (fun _ => c_ref38_Link x (by omega)) (fun _ => rfl) (by rfl) ?_
      simp only [tl, tl2, isCallR, entX, argFr, ret, retI, retB, intT, unT, endR, ressR, resR, tupT, bslR, boxR, lenAll, ↓reduceIte, Nat.reduceEqDiff, Nat.reduceAdd, Nat.reduceMul, Nat.reduceLT, Nat.reduceLeDiff, reduceCtorEq, Int.reduceLE, Int.reduceLT, ne_eq, Int.reduceEq, not_false_eq_true, decide_true, decide_false, Int.reduceToNat, tl3, Int.reduceBNe, Int.reduceBEq, rmK, rm1, not_true_eq_false, bne_self_eq_false]
      refine ⟨by kernel_rfl, ?_⟩
      obtain ⟨rs, hrs2⟩ : ∃ rs, rs = [raw, L, odd] := ⟨_, rfl⟩
      have hrl : rs.length = 3 := by rw [hrs2]; rfl
      have hrsa : ∀ r ∈ rs, r.length ≤ 20 ∧ small r := by
        intro r hr
        rw [hrs2] at hr
        simp only [List.mem_cons, List.not_mem_nil, or_false] at hr
        rcases hr with rfl | rfl | rfl
        · exact ⟨by omega, hraws⟩
        · exact ⟨by omega, hsm⟩
        · exact ⟨by omega, hos⟩
      refine W_loopF mixm (α := Nat) [190] (fun a => a ≤ 3) (fun a => [(190, vI a)]) (fun a => [(139276, .arr 1 (rs.map vEs) false)]) (fun a => 3 - a) 0 (by omega) ?_ fun a ha => ?_
      · refine .of [(139276, some 139276)] [49152] rfl (by first | rfl | (rw [hst]; rfl)) ?_ ?_
        all_goals (try simp only [ltSto, ltO2, ltO1, ltAs, ltA, ltC, ltCs, ltT, ltFr, ltS, wrOk, wrO, TL.get, hasFr, ↓reduceIte, Nat.reduceEqDiff, reduceCtorEq, Option.getD_some, Option.isSome_some, List.length_map, List.length_append, List.length_cons, List.length_nil, List.append_nil, List.mem_singleton, List.mem_cons, List.not_mem_nil, and_true, true_and, and_self, imp_self, forall_const, false_implies, implies_true, true_implies, or_false, Bool.false_eq_true, Bool.true_eq_false, ImXs_nil, true_or, or_true, false_or, false_and, and_false, rmK, rm1, List.map_append, List.map_cons, List.map_nil, List.cons_append, List.nil_append, hrs2, ltS, List.length_map])
        all_goals (try (repeat' (first
            | exact ltXs_nil
            | (apply ltXs_map; intro _; exact ⟨rfl, rfl⟩)
            | (apply imXs_map; intro _; exact ⟨rfl, rfl⟩)
            | with_reducible apply imXs_append
            | with_reducible refine imXs_cons ⟨rfl, rfl⟩ ?_
            | exact imXs_nil
            | with_reducible apply ltXs_append
            | with_reducible refine ltXs_cons ⟨rfl, rfl, ?_⟩ ?_
            | with_reducible apply And.intro
            | exact ltCs_im rfl
            | exact ltCs_im (by assumption)
            | (refine ⟨⟨?_, rfl, ?_, rfl, ?_⟩, trivial⟩ <;> first | (simp; done) | (apply imXs_map; intro _; exact ⟨rfl, rfl⟩))
            | trivial
            | rfl
            | (rw [i64_succ (by omega)])
            | omega)))
      simp only [tl, tl2, isCallR, entX, argFr, ret, retI, retB, intT, unT, endR, ressR, resR, tupT, bslR, boxR, lenAll, ↓reduceIte, Nat.reduceEqDiff, Nat.reduceAdd, Nat.reduceMul, Nat.reduceLT, Nat.reduceLeDiff, reduceCtorEq, Int.reduceLE, Int.reduceLT, ne_eq, Int.reduceEq, not_false_eq_true, decide_true, decide_false, Int.reduceToNat, tl3, Int.reduceBNe, Int.reduceBEq, rmK, rm1, not_true_eq_false, decide_eq_true_eq, decide_eq_false_iff_not]
      refine ⟨fun h => ?_, fun h => ?_⟩
      · have ha3 : a < rs.length := by omega
        obtain ⟨hr1, hr2⟩ := hrsa rs[a] (List.getElem_mem _)
        have hwa := i64_succ (i := a) (by omega)
        simp only [tl, tl2, isCallR, entX, argFr, ret, retI, retB, intT, unT, endR, ressR, resR, tupT, bslR, boxR, lenAll, ↓reduceIte, Nat.reduceEqDiff, Nat.reduceAdd, Nat.reduceMul, Nat.reduceLT, Nat.reduceLeDiff, reduceCtorEq, Int.reduceLE, Int.reduceLT, ne_eq, Int.reduceEq, not_false_eq_true, decide_true, decide_false, Int.reduceToNat, tl3, Int.reduceBNe, Int.reduceBEq, rmK, rm1, not_true_eq_false, Int.toNat_natCast, getD_mapT ha3, hrl, List.length_map]
        refine ⟨by omega, by omega, ?_⟩
        obtain ⟨r, hr⟩ : ∃ r, r = rs[a] := ⟨_, rfl⟩
        rw [← hr] at hr1 hr2 ⊢
        refine C1.im (c_register_Check r (by omega) hr2) rfl (by rfl) ?_
        simp only [tl, tl2, isCallR, entX, argFr, ret, retI, retB, intT, unT, endR, ressR, resR, tupT, bslR, boxR, lenAll, ↓reduceIte, Nat.reduceEqDiff, Nat.reduceAdd, Nat.reduceMul, Nat.reduceLT, Nat.reduceLeDiff, reduceCtorEq, Int.reduceLE, Int.reduceLT, ne_eq, Int.reduceEq, not_false_eq_true, decide_true, decide_false, Int.reduceToNat, tl3, Int.reduceBNe, Int.reduceBEq, rmK, rm1, not_true_eq_false]
        refine C1.im (c_ref38_Check r (by omega) hr2) rfl (by rfl) ?_
        simp only [tl, tl2, isCallR, entX, argFr, ret, retI, retB, intT, unT, endR, ressR, resR, tupT, bslR, boxR, lenAll, ↓reduceIte, Nat.reduceEqDiff, Nat.reduceAdd, Nat.reduceMul, Nat.reduceLT, Nat.reduceLeDiff, reduceCtorEq, Int.reduceLE, Int.reduceLT, ne_eq, Int.reduceEq, not_false_eq_true, decide_true, decide_false, Int.reduceToNat, tl3, Int.reduceBNe, Int.reduceBEq, rmK, rm1, not_true_eq_false, bne_self_eq_false]
        refine C2.im (fun _ => c_register_InForce r (by omega) hr2) (fun _ => rfl) (by rfl) ?_
        simp only [tl, tl2, isCallR, entX, argFr, ret, retI, retB, intT, unT, endR, ressR, resR, tupT, bslR, boxR, lenAll, ↓reduceIte, Nat.reduceEqDiff, Nat.reduceAdd, Nat.reduceMul, Nat.reduceLT, Nat.reduceLeDiff, reduceCtorEq, Int.reduceLE, Int.reduceLT, ne_eq, Int.reduceEq, not_false_eq_true, decide_true, decide_false, Int.reduceToNat, tl3, Int.reduceBNe, Int.reduceBEq, rmK, rm1, not_true_eq_false]
        refine C2.im (fun _ => c_ref38_InForce r (by omega) hr2) (fun _ => rfl) (by rfl) ?_
        have hfl : (forceA r).length ≤ 60 := by
          by_cases hc0 : chkI r = 0
          · exact forceA_len hc0
          · rw [forceA, if_neg hc0]; simp
        simp only [tl, tl2, isCallR, entX, argFr, ret, retI, retB, intT, unT, endR, ressR, resR, tupT, bslR, boxR, lenAll, ↓reduceIte, Nat.reduceEqDiff, Nat.reduceAdd, Nat.reduceMul, Nat.reduceLT, Nat.reduceLeDiff, reduceCtorEq, Int.reduceLE, Int.reduceLT, ne_eq, Int.reduceEq, not_false_eq_true, decide_true, decide_false, Int.reduceToNat, tl3, Int.reduceBNe, Int.reduceBEq, rmK, rm1, not_true_eq_false]
        refine C2.im (fun _ => c_ref28_Ints (forceA r) (forceA r) (by omega) (by omega)) (fun _ => rfl) (by rfl) ?_
        simp only [tl, tl2, isCallR, entX, argFr, ret, retI, retB, intT, unT, endR, ressR, resR, tupT, bslR, boxR, lenAll, ↓reduceIte, Nat.reduceEqDiff, Nat.reduceAdd, Nat.reduceMul, Nat.reduceLT, Nat.reduceLeDiff, reduceCtorEq, Int.reduceLE, Int.reduceLT, ne_eq, Int.reduceEq, not_false_eq_true, decide_true, decide_false, Int.reduceToNat, tl3, Int.reduceBNe, Int.reduceBEq, rmK, rm1, not_true_eq_false, ints_true]
        refine C1.im (c_draw_Mod out 9 (by omega)) rfl (by rfl) ?_
        simp only [tl, tl2, isCallR, entX, argFr, ret, retI, retB, intT, unT, endR, ressR, resR, tupT, bslR, boxR, lenAll, ↓reduceIte, Nat.reduceEqDiff, Nat.reduceAdd, Nat.reduceMul, Nat.reduceLT, Nat.reduceLeDiff, reduceCtorEq, Int.reduceLE, Int.reduceLT, ne_eq, Int.reduceEq, not_false_eq_true, decide_true, decide_false, Int.reduceToNat, tl3, Int.reduceBNe, Int.reduceBEq, rmK, rm1, not_true_eq_false]
        obtain ⟨ns, hns⟩ : ∃ ns, ns = [out, modI out 9] := ⟨_, rfl⟩
        have hnl : ns.length = 2 := by rw [hns]; rfl
        refine W_loopF mixm (α := Nat) [210, 212] (fun n => n ≤ 2) (fun n => [(210, vIs ns), (212, vI n)]) (fun n => [(139276, .arr 1 (rs.map vEs) false)]) (fun n => 2 - n) 0 (by omega) ?_ fun n hn => ?_
        · refine .of [(139276, some 139276)] [159756] rfl (by first | rfl | (rw [hst]; rfl)) ?_ ?_
          all_goals (try simp only [ltSto, ltO2, ltO1, ltAs, ltA, ltC, ltCs, ltT, ltFr, ltS, wrOk, wrO, TL.get, hasFr, ↓reduceIte, Nat.reduceEqDiff, reduceCtorEq, Option.getD_some, Option.isSome_some, List.length_map, List.length_append, List.length_cons, List.length_nil, List.append_nil, List.mem_singleton, List.mem_cons, List.not_mem_nil, and_true, true_and, and_self, imp_self, forall_const, false_implies, implies_true, true_implies, or_false, Bool.false_eq_true, Bool.true_eq_false, ImXs_nil, true_or, or_true, false_or, false_and, and_false, rmK, rm1, List.map_append, List.map_cons, List.map_nil, List.cons_append, List.nil_append, hns, ltS])
          all_goals (try (repeat' (first
              | exact ltXs_nil
              | (apply ltXs_map; intro _; exact ⟨rfl, rfl⟩)
              | (apply imXs_map; intro _; exact ⟨rfl, rfl⟩)
              | with_reducible apply imXs_append
              | with_reducible refine imXs_cons ⟨rfl, rfl⟩ ?_
              | exact imXs_nil
              | with_reducible apply ltXs_append
              | with_reducible refine ltXs_cons ⟨rfl, rfl, ?_⟩ ?_
              | with_reducible apply And.intro
              | exact ltCs_im rfl
              | exact ltCs_im (by assumption)
              | (refine ⟨⟨?_, rfl, ?_, rfl, ?_⟩, trivial⟩ <;> first | (simp; done) | (apply imXs_map; intro _; exact ⟨rfl, rfl⟩))
              | trivial
              | rfl
              | (rw [i64_succ (by omega)])
              | omega)))
        simp only [tl, tl2, isCallR, entX, argFr, ret, retI, retB, intT, unT, endR, ressR, resR, tupT, bslR, boxR, lenAll, ↓reduceIte, Nat.reduceEqDiff, Nat.reduceAdd, Nat.reduceMul, Nat.reduceLT, Nat.reduceLeDiff, reduceCtorEq, Int.reduceLE, Int.reduceLT, ne_eq, Int.reduceEq, not_false_eq_true, decide_true, decide_false, Int.reduceToNat, tl3, Int.reduceBNe, Int.reduceBEq, rmK, rm1, not_true_eq_false, decide_eq_true_eq, decide_eq_false_iff_not]
        refine ⟨fun h => ?_, fun h => ?_⟩
        · have hn3 : n < ns.length := by omega
          have hwn := i64_succ (i := n) (by omega)
          simp only [tl, tl2, isCallR, entX, argFr, ret, retI, retB, intT, unT, endR, ressR, resR, tupT, bslR, boxR, lenAll, ↓reduceIte, Nat.reduceEqDiff, Nat.reduceAdd, Nat.reduceMul, Nat.reduceLT, Nat.reduceLeDiff, reduceCtorEq, Int.reduceLE, Int.reduceLT, ne_eq, Int.reduceEq, not_false_eq_true, decide_true, decide_false, Int.reduceToNat, tl3, Int.reduceBNe, Int.reduceBEq, rmK, rm1, not_true_eq_false, Int.toNat_natCast, getD_mapT hn3, hnl]
          refine ⟨by omega, ?_⟩
          obtain ⟨N, hN⟩ : ∃ N, N = ns[n] := ⟨_, rfl⟩
          rw [← hN]
          refine C1.im (c_draw_Mod of_ 9 (by omega)) rfl (by rfl) ?_
          simp only [tl, tl2, isCallR, entX, argFr, ret, retI, retB, intT, unT, endR, ressR, resR, tupT, bslR, boxR, lenAll, ↓reduceIte, Nat.reduceEqDiff, Nat.reduceAdd, Nat.reduceMul, Nat.reduceLT, Nat.reduceLeDiff, reduceCtorEq, Int.reduceLE, Int.reduceLT, ne_eq, Int.reduceEq, not_false_eq_true, decide_true, decide_false, Int.reduceToNat, tl3, Int.reduceBNe, Int.reduceBEq, rmK, rm1, not_true_eq_false]
          obtain ⟨ms, hms⟩ : ∃ ns, ns = [of_, modI of_ 9] := ⟨_, rfl⟩
          have hml : ms.length = 2 := by rw [hms]; rfl
          refine W_loopF mixm (α := Nat) [219, 221] (fun m => m ≤ 2) (fun m => [(219, vIs ms), (221, vI m)]) (fun m => [(139276, .arr 1 (rs.map vEs) false)]) (fun m => 2 - m) 0 (by omega) ?_ fun m hm => ?_
          · refine .of [(139276, some 139276)] [172044] rfl (by first | rfl | (rw [hst]; rfl)) ?_ ?_
            all_goals (try simp only [ltSto, ltO2, ltO1, ltAs, ltA, ltC, ltCs, ltT, ltFr, ltS, wrOk, wrO, TL.get, hasFr, ↓reduceIte, Nat.reduceEqDiff, reduceCtorEq, Option.getD_some, Option.isSome_some, List.length_map, List.length_append, List.length_cons, List.length_nil, List.append_nil, List.mem_singleton, List.mem_cons, List.not_mem_nil, and_true, true_and, and_self, imp_self, forall_const, false_implies, implies_true, true_implies, or_false, Bool.false_eq_true, Bool.true_eq_false, ImXs_nil, true_or, or_true, false_or, false_and, and_false, rmK, rm1, List.map_append, List.map_cons, List.map_nil, List.cons_append, List.nil_append, hms, ltS])
            all_goals (try (repeat' (first
                | exact ltXs_nil
                | (apply ltXs_map; intro _; exact ⟨rfl, rfl⟩)
                | (apply imXs_map; intro _; exact ⟨rfl, rfl⟩)
                | with_reducible apply imXs_append
                | with_reducible refine imXs_cons ⟨rfl, rfl⟩ ?_
                | exact imXs_nil
                | with_reducible apply ltXs_append
                | with_reducible refine ltXs_cons ⟨rfl, rfl, ?_⟩ ?_
                | with_reducible apply And.intro
                | exact ltCs_im rfl
                | exact ltCs_im (by assumption)
                | (refine ⟨⟨?_, rfl, ?_, rfl, ?_⟩, trivial⟩ <;> first | (simp; done) | (apply imXs_map; intro _; exact ⟨rfl, rfl⟩))
                | trivial
                | rfl
                | (rw [i64_succ (by omega)])
                | omega)))
          simp only [tl, tl2, isCallR, entX, argFr, ret, retI, retB, intT, unT, endR, ressR, resR, tupT, bslR, boxR, lenAll, ↓reduceIte, Nat.reduceEqDiff, Nat.reduceAdd, Nat.reduceMul, Nat.reduceLT, Nat.reduceLeDiff, reduceCtorEq, Int.reduceLE, Int.reduceLT, ne_eq, Int.reduceEq, not_false_eq_true, decide_true, decide_false, Int.reduceToNat, tl3, Int.reduceBNe, Int.reduceBEq, rmK, rm1, not_true_eq_false, decide_eq_true_eq, decide_eq_false_iff_not]
          refine ⟨fun h => ?_, fun h => ?_⟩
          · have hm3 : m < ms.length := by omega
            have hwm := i64_succ (i := m) (by omega)
            simp only [tl, tl2, isCallR, entX, argFr, ret, retI, retB, intT, unT, endR, ressR, resR, tupT, bslR, boxR, lenAll, ↓reduceIte, Nat.reduceEqDiff, Nat.reduceAdd, Nat.reduceMul, Nat.reduceLT, Nat.reduceLeDiff, reduceCtorEq, Int.reduceLE, Int.reduceLT, ne_eq, Int.reduceEq, not_false_eq_true, decide_true, decide_false, Int.reduceToNat, tl3, Int.reduceBNe, Int.reduceBEq, rmK, rm1, not_true_eq_false, Int.toNat_natCast, getD_mapT hm3, hml]
            refine ⟨by omega, ?_⟩
            obtain ⟨M, hM⟩ : ∃ N, N = ms[m] := ⟨_, rfl⟩
            rw [← hM]
            refine C1.im (c_draw_Mod kind 3 (by omega)) rfl (by rfl) ?_
            have hm6 := mod_range (n := kind) (m := 3) (by omega)
            have hw6 : IntKind.i64.wrap (1 + modI kind 3) = 1 + modI kind 3 := IntWalk.i64_in _ (by omega)
            simp only [tl, tl2, isCallR, entX, argFr, ret, retI, retB, intT, unT, endR, ressR, resR, tupT, bslR, boxR, lenAll, ↓reduceIte, Nat.reduceEqDiff, Nat.reduceAdd, Nat.reduceMul, Nat.reduceLT, Nat.reduceLeDiff, reduceCtorEq, Int.reduceLE, Int.reduceLT, ne_eq, Int.reduceEq, not_false_eq_true, decide_true, decide_false, Int.reduceToNat, tl3, Int.reduceBNe, Int.reduceBEq, rmK, rm1, not_true_eq_false, hw6]
            obtain ⟨ks, hks⟩ : ∃ ns, ns = [kind, 1 + modI kind 3] := ⟨_, rfl⟩
            have hkl' : ks.length = 2 := by rw [hks]; rfl
            refine W_loopF mixm (α := Nat) [229, 231] (fun q => q ≤ 2) (fun q => [(229, vIs ks), (231, vI q)]) (fun q => [(139276, .arr 1 (rs.map vEs) false)]) (fun q => 2 - q) 0 (by omega) ?_ fun q hq => ?_
            · refine .of [(139276, some 139276)] [184336] rfl (by first | rfl | (rw [hst]; rfl)) ?_ ?_
              all_goals (try simp only [ltSto, ltO2, ltO1, ltAs, ltA, ltC, ltCs, ltT, ltFr, ltS, wrOk, wrO, TL.get, hasFr, ↓reduceIte, Nat.reduceEqDiff, reduceCtorEq, Option.getD_some, Option.isSome_some, List.length_map, List.length_append, List.length_cons, List.length_nil, List.append_nil, List.mem_singleton, List.mem_cons, List.not_mem_nil, and_true, true_and, and_self, imp_self, forall_const, false_implies, implies_true, true_implies, or_false, Bool.false_eq_true, Bool.true_eq_false, ImXs_nil, true_or, or_true, false_or, false_and, and_false, rmK, rm1, List.map_append, List.map_cons, List.map_nil, List.cons_append, List.nil_append, hks, ltS])
              all_goals (try (repeat' (first
                  | exact ltXs_nil
                  | (apply ltXs_map; intro _; exact ⟨rfl, rfl⟩)
                  | (apply imXs_map; intro _; exact ⟨rfl, rfl⟩)
                  | with_reducible apply imXs_append
                  | with_reducible refine imXs_cons ⟨rfl, rfl⟩ ?_
                  | exact imXs_nil
                  | with_reducible apply ltXs_append
                  | with_reducible refine ltXs_cons ⟨rfl, rfl, ?_⟩ ?_
                  | with_reducible apply And.intro
                  | exact ltCs_im rfl
                  | exact ltCs_im (by assumption)
                  | (refine ⟨⟨?_, rfl, ?_, rfl, ?_⟩, trivial⟩ <;> first | (simp; done) | (apply imXs_map; intro _; exact ⟨rfl, rfl⟩))
                  | trivial
                  | rfl
                  | (rw [i64_succ (by omega)])
                  | omega)))
            simp only [tl, tl2, isCallR, entX, argFr, ret, retI, retB, intT, unT, endR, ressR, resR, tupT, bslR, boxR, lenAll, ↓reduceIte, Nat.reduceEqDiff, Nat.reduceAdd, Nat.reduceMul, Nat.reduceLT, Nat.reduceLeDiff, reduceCtorEq, Int.reduceLE, Int.reduceLT, ne_eq, Int.reduceEq, not_false_eq_true, decide_true, decide_false, Int.reduceToNat, tl3, Int.reduceBNe, Int.reduceBEq, rmK, rm1, not_true_eq_false, decide_eq_true_eq, decide_eq_false_iff_not]
            refine ⟨fun h => ?_, fun h => ?_⟩
            · have hq3 : q < ks.length := by omega
              have hwq := i64_succ (i := q) (by omega)
              simp only [tl, tl2, isCallR, entX, argFr, ret, retI, retB, intT, unT, endR, ressR, resR, tupT, bslR, boxR, lenAll, ↓reduceIte, Nat.reduceEqDiff, Nat.reduceAdd, Nat.reduceMul, Nat.reduceLT, Nat.reduceLeDiff, reduceCtorEq, Int.reduceLE, Int.reduceLT, ne_eq, Int.reduceEq, not_false_eq_true, decide_true, decide_false, Int.reduceToNat, tl3, Int.reduceBNe, Int.reduceBEq, rmK, rm1, not_true_eq_false, Int.toNat_natCast, getD_mapT hq3, hkl']
              refine ⟨by omega, ?_⟩
              refine C1.im (c_register_Add r ks[q] M N text (by omega) hr2) rfl (by rfl) ?_
              simp only [tl, tl2, isCallR, entX, argFr, ret, retI, retB, intT, unT, endR, ressR, resR, tupT, bslR, boxR, lenAll, ↓reduceIte, Nat.reduceEqDiff, Nat.reduceAdd, Nat.reduceMul, Nat.reduceLT, Nat.reduceLeDiff, reduceCtorEq, Int.reduceLE, Int.reduceLT, ne_eq, Int.reduceEq, not_false_eq_true, decide_true, decide_false, Int.reduceToNat, tl3, Int.reduceBNe, Int.reduceBEq, rmK, rm1, not_true_eq_false]
              refine C1.im (c_ref38_Add r ks[q] M N text (by omega) hr2) rfl (by rfl) ?_
              simp only [tl, tl2, isCallR, entX, argFr, ret, retI, retB, intT, unT, endR, ressR, resR, tupT, bslR, boxR, lenAll, ↓reduceIte, Nat.reduceEqDiff, Nat.reduceAdd, Nat.reduceMul, Nat.reduceLT, Nat.reduceLeDiff, reduceCtorEq, Int.reduceLE, Int.reduceLT, ne_eq, Int.reduceEq, not_false_eq_true, decide_true, decide_false, Int.reduceToNat, tl3, Int.reduceBNe, Int.reduceBEq, rmK, rm1, not_true_eq_false]
              have hal : (addA r ks[q] M N text).1.length ≤ 21 := by
                unfold addA
                split
                · simp only; omega
                · split
                  · simp only; omega
                  · split
                    · simp only; omega
                    · simp; omega
              refine C1.im (c_ref38_Same _ _ (by omega) (by omega)) rfl (by rfl) ?_
              simp only [tl, tl2, isCallR, entX, argFr, ret, retI, retB, intT, unT, endR, ressR, resR, tupT, bslR, boxR, lenAll, ↓reduceIte, Nat.reduceEqDiff, Nat.reduceAdd, Nat.reduceMul, Nat.reduceLT, Nat.reduceLeDiff, reduceCtorEq, Int.reduceLE, Int.reduceLT, ne_eq, Int.reduceEq, not_false_eq_true, decide_true, decide_false, Int.reduceToNat, tl3, Int.reduceBNe, Int.reduceBEq, rmK, rm1, not_true_eq_false, same_true, bne_self_eq_false]
              refine ⟨q + 1, by omega, by omega, ?_⟩
              refine .of [(139276, some 139276)] [] rfl (by first | rfl | (rw [hst]; rfl)) ?_ ?_
              all_goals (try simp only [ltSto, ltO2, ltO1, ltAs, ltA, ltC, ltCs, ltT, ltFr, ltS, wrOk, wrO, TL.get, hasFr, ↓reduceIte, Nat.reduceEqDiff, reduceCtorEq, Option.getD_some, Option.isSome_some, List.length_map, List.length_append, List.length_cons, List.length_nil, List.append_nil, List.mem_singleton, List.mem_cons, List.not_mem_nil, and_true, true_and, and_self, imp_self, forall_const, false_implies, implies_true, true_implies, or_false, Bool.false_eq_true, Bool.true_eq_false, ImXs_nil, true_or, or_true, false_or, false_and, and_false, rmK, rm1, List.map_append, List.map_cons, List.map_nil, List.cons_append, List.nil_append])
              all_goals (try (repeat' (first
                  | exact ltXs_nil
                  | (apply ltXs_map; intro _; exact ⟨rfl, rfl⟩)
                  | (apply imXs_map; intro _; exact ⟨rfl, rfl⟩)
                  | with_reducible apply imXs_append
                  | with_reducible refine imXs_cons ⟨rfl, rfl⟩ ?_
                  | exact imXs_nil
                  | with_reducible apply ltXs_append
                  | with_reducible refine ltXs_cons ⟨rfl, rfl, ?_⟩ ?_
                  | with_reducible apply And.intro
                  | exact ltCs_im rfl
                  | exact ltCs_im (by assumption)
                  | (refine ⟨⟨?_, rfl, ?_, rfl, ?_⟩, trivial⟩ <;> first | (simp; done) | (apply imXs_map; intro _; exact ⟨rfl, rfl⟩))
                  | trivial
                  | rfl
                  | (rw [i64_succ (by omega)])
                  | omega)))
            · refine C1.im (c_register_History r M (by omega) hr2) rfl (by rfl) ?_
              simp only [tl, tl2, isCallR, entX, argFr, ret, retI, retB, intT, unT, endR, ressR, resR, tupT, bslR, boxR, lenAll, ↓reduceIte, Nat.reduceEqDiff, Nat.reduceAdd, Nat.reduceMul, Nat.reduceLT, Nat.reduceLeDiff, reduceCtorEq, Int.reduceLE, Int.reduceLT, ne_eq, Int.reduceEq, not_false_eq_true, decide_true, decide_false, Int.reduceToNat, tl3, Int.reduceBNe, Int.reduceBEq, rmK, rm1, not_true_eq_false]
              refine C1.im (c_ref38_History r M (by omega) hr2) rfl (by rfl) ?_
              simp only [tl, tl2, isCallR, entX, argFr, ret, retI, retB, intT, unT, endR, ressR, resR, tupT, bslR, boxR, lenAll, ↓reduceIte, Nat.reduceEqDiff, Nat.reduceAdd, Nat.reduceMul, Nat.reduceLT, Nat.reduceLeDiff, reduceCtorEq, Int.reduceLE, Int.reduceLT, ne_eq, Int.reduceEq, not_false_eq_true, decide_true, decide_false, Int.reduceToNat, tl3, Int.reduceBNe, Int.reduceBEq, rmK, rm1, not_true_eq_false]
              have hhl : (histA r M).1.length < 4611686018427387904 := by
                unfold histA
                split
                · simp
                · split
                  · simp
                  · have := hist_len (l := r) M.toNat M.toNat
                    simp only [histN]
                    omega
              refine C1.im (c_ref28_Ints _ _ hhl hhl) rfl (by rfl) ?_
              simp only [tl, tl2, isCallR, entX, argFr, ret, retI, retB, intT, unT, endR, ressR, resR, tupT, bslR, boxR, lenAll, ↓reduceIte, Nat.reduceEqDiff, Nat.reduceAdd, Nat.reduceMul, Nat.reduceLT, Nat.reduceLeDiff, reduceCtorEq, Int.reduceLE, Int.reduceLT, ne_eq, Int.reduceEq, not_false_eq_true, decide_true, decide_false, Int.reduceToNat, tl3, Int.reduceBNe, Int.reduceBEq, rmK, rm1, not_true_eq_false, ints_true, bne_self_eq_false]
              refine ⟨m + 1, by omega, by omega, ?_⟩
              refine .of [(139276, some 139276)] [] rfl (by first | rfl | (rw [hst]; rfl)) ?_ ?_
              all_goals (try simp only [ltSto, ltO2, ltO1, ltAs, ltA, ltC, ltCs, ltT, ltFr, ltS, wrOk, wrO, TL.get, hasFr, ↓reduceIte, Nat.reduceEqDiff, reduceCtorEq, Option.getD_some, Option.isSome_some, List.length_map, List.length_append, List.length_cons, List.length_nil, List.append_nil, List.mem_singleton, List.mem_cons, List.not_mem_nil, and_true, true_and, and_self, imp_self, forall_const, false_implies, implies_true, true_implies, or_false, Bool.false_eq_true, Bool.true_eq_false, ImXs_nil, true_or, or_true, false_or, false_and, and_false, rmK, rm1, List.map_append, List.map_cons, List.map_nil, List.cons_append, List.nil_append])
              all_goals (try (repeat' (first
                  | exact ltXs_nil
                  | (apply ltXs_map; intro _; exact ⟨rfl, rfl⟩)
                  | (apply imXs_map; intro _; exact ⟨rfl, rfl⟩)
                  | with_reducible apply imXs_append
                  | with_reducible refine imXs_cons ⟨rfl, rfl⟩ ?_
                  | exact imXs_nil
                  | with_reducible apply ltXs_append
                  | with_reducible refine ltXs_cons ⟨rfl, rfl, ?_⟩ ?_
                  | with_reducible apply And.intro
                  | exact ltCs_im rfl
                  | exact ltCs_im (by assumption)
                  | (refine ⟨⟨?_, rfl, ?_, rfl, ?_⟩, trivial⟩ <;> first | (simp; done) | (apply imXs_map; intro _; exact ⟨rfl, rfl⟩))
                  | trivial
                  | rfl
                  | (rw [i64_succ (by omega)])
                  | omega)))
          · refine C1.im (c_register_Find r N (by omega) hr2) rfl (by rfl) ?_
            simp only [tl, tl2, isCallR, entX, argFr, ret, retI, retB, intT, unT, endR, ressR, resR, tupT, bslR, boxR, lenAll, ↓reduceIte, Nat.reduceEqDiff, Nat.reduceAdd, Nat.reduceMul, Nat.reduceLT, Nat.reduceLeDiff, reduceCtorEq, Int.reduceLE, Int.reduceLT, ne_eq, Int.reduceEq, not_false_eq_true, decide_true, decide_false, Int.reduceToNat, tl3, Int.reduceBNe, Int.reduceBEq, rmK, rm1, not_true_eq_false]
            refine C1.im (c_ref38_Find r N (by omega) hr2) rfl (by rfl) ?_
            simp only [tl, tl2, isCallR, entX, argFr, ret, retI, retB, intT, unT, endR, ressR, resR, tupT, bslR, boxR, lenAll, ↓reduceIte, Nat.reduceEqDiff, Nat.reduceAdd, Nat.reduceMul, Nat.reduceLT, Nat.reduceLeDiff, reduceCtorEq, Int.reduceLE, Int.reduceLT, ne_eq, Int.reduceEq, not_false_eq_true, decide_true, decide_false, Int.reduceToNat, tl3, Int.reduceBNe, Int.reduceBEq, rmK, rm1, not_true_eq_false, bne_self_eq_false]
            refine ⟨n + 1, by omega, by omega, ?_⟩
            refine .of [(139276, some 139276)] [] rfl (by first | rfl | (rw [hst]; rfl)) ?_ ?_
            all_goals (try simp only [ltSto, ltO2, ltO1, ltAs, ltA, ltC, ltCs, ltT, ltFr, ltS, wrOk, wrO, TL.get, hasFr, ↓reduceIte, Nat.reduceEqDiff, reduceCtorEq, Option.getD_some, Option.isSome_some, List.length_map, List.length_append, List.length_cons, List.length_nil, List.append_nil, List.mem_singleton, List.mem_cons, List.not_mem_nil, and_true, true_and, and_self, imp_self, forall_const, false_implies, implies_true, true_implies, or_false, Bool.false_eq_true, Bool.true_eq_false, ImXs_nil, true_or, or_true, false_or, false_and, and_false, rmK, rm1, List.map_append, List.map_cons, List.map_nil, List.cons_append, List.nil_append])
            all_goals (try (repeat' (first
                | exact ltXs_nil
                | (apply ltXs_map; intro _; exact ⟨rfl, rfl⟩)
                | (apply imXs_map; intro _; exact ⟨rfl, rfl⟩)
                | with_reducible apply imXs_append
                | with_reducible refine imXs_cons ⟨rfl, rfl⟩ ?_
                | exact imXs_nil
                | with_reducible apply ltXs_append
                | with_reducible refine ltXs_cons ⟨rfl, rfl, ?_⟩ ?_
                | with_reducible apply And.intro
                | exact ltCs_im rfl
                | exact ltCs_im (by assumption)
                | (refine ⟨⟨?_, rfl, ?_, rfl, ?_⟩, trivial⟩ <;> first | (simp; done) | (apply imXs_map; intro _; exact ⟨rfl, rfl⟩))
                | trivial
                | rfl
                | (rw [i64_succ (by omega)])
                | omega)))
        · refine ⟨a + 1, by omega, by omega, ?_⟩
          refine .of [(139276, some 139276)] [] rfl (by first | rfl | (rw [hst]; rfl)) ?_ ?_
          all_goals (try simp only [ltSto, ltO2, ltO1, ltAs, ltA, ltC, ltCs, ltT, ltFr, ltS, wrOk, wrO, TL.get, hasFr, ↓reduceIte, Nat.reduceEqDiff, reduceCtorEq, Option.getD_some, Option.isSome_some, List.length_map, List.length_append, List.length_cons, List.length_nil, List.append_nil, List.mem_singleton, List.mem_cons, List.not_mem_nil, and_true, true_and, and_self, imp_self, forall_const, false_implies, implies_true, true_implies, or_false, Bool.false_eq_true, Bool.true_eq_false, ImXs_nil, true_or, or_true, false_or, false_and, and_false, rmK, rm1, List.map_append, List.map_cons, List.map_nil, List.cons_append, List.nil_append])
          all_goals (try (repeat' (first
              | exact ltXs_nil
              | (apply ltXs_map; intro _; exact ⟨rfl, rfl⟩)
              | (apply imXs_map; intro _; exact ⟨rfl, rfl⟩)
              | with_reducible apply imXs_append
              | with_reducible refine imXs_cons ⟨rfl, rfl⟩ ?_
              | exact imXs_nil
              | with_reducible apply ltXs_append
              | with_reducible refine ltXs_cons ⟨rfl, rfl, ?_⟩ ?_
              | with_reducible apply And.intro
              | exact ltCs_im rfl
              | exact ltCs_im (by assumption)
              | (refine ⟨⟨?_, rfl, ?_, rfl, ?_⟩, trivial⟩ <;> first | (simp; done) | (apply imXs_map; intro _; exact ⟨rfl, rfl⟩))
              | trivial
              | rfl
              | (rw [i64_succ (by omega)])
              | omega)))
      · refine C1.im c_law38_awake rfl (by rfl) ?_
        simp only [tl, tl2, isCallR, entX, argFr, ret, retI, retB, intT, unT, endR, ressR, resR, tupT, bslR, boxR, lenAll, ↓reduceIte, Nat.reduceEqDiff, Nat.reduceAdd, Nat.reduceMul, Nat.reduceLT, Nat.reduceLeDiff, reduceCtorEq, Int.reduceLE, Int.reduceLT, ne_eq, Int.reduceEq, not_false_eq_true, decide_true, decide_false, Int.reduceToNat, tl3, Int.reduceBNe, Int.reduceBEq, rmK, rm1, not_true_eq_false]
        exact .imR rfl rfl
    · refine ⟨⟨fun y hy c hcc => ?_, by omega, by omega⟩, ?_⟩
      · obtain ⟨a, _, rfl⟩ := List.mem_map.1 hy
        exact imL_mem (show imL (entT a).cells = true from rfl) c hcc
      obtain ⟨odd, ho⟩ : ∃ o, o = L.drop 1 := ⟨_, rfl⟩
      have hcut : cutT (1 : Int) (L.length : Int) L = odd := by rw [ho]; simp [cutT]
      rw [cut_map, hcut]
      have hol : odd.length ≤ 8 := by rw [ho, List.length_drop]; omega
      have hos : small odd := fun y hy => hsm y (by rw [ho] at hy; exact List.mem_of_mem_drop hy)
      refine C1.im (c_register_Sum b (by omega)) rfl (by rfl) ?_
      simp only [tl, tl2, isCallR, entX, argFr, ret, retI, retB, intT, unT, endR, ressR, resR, tupT, bslR, boxR, lenAll, ↓reduceIte, Nat.reduceEqDiff, Nat.reduceAdd, Nat.reduceMul, Nat.reduceLT, Nat.reduceLeDiff, reduceCtorEq, Int.reduceLE, Int.reduceLT, ne_eq, Int.reduceEq, not_false_eq_true, decide_true, decide_false, Int.reduceToNat, tl3, Int.reduceBNe, Int.reduceBEq, rmK, rm1, not_true_eq_false]
      refine C1.im (c_ref38_Sum b (by omega)) rfl (by rfl) ?_
      simp only [tl, tl2, isCallR, entX, argFr, ret, retI, retB, intT, unT, endR, ressR, resR, tupT, bslR, boxR, lenAll, ↓reduceIte, Nat.reduceEqDiff, Nat.reduceAdd, Nat.reduceMul, Nat.reduceLT, Nat.reduceLeDiff, reduceCtorEq, Int.reduceLE, Int.reduceLT, ne_eq, Int.reduceEq, not_false_eq_true, decide_true, decide_false, Int.reduceToNat, tl3, Int.reduceBNe, Int.reduceBEq, rmK, rm1, not_true_eq_false, bne_self_eq_false, entT]
      refine C2.im (fun _ => c_register_Link x (by omega)) (fun _ => rfl) (by rfl) ?_
      simp only [tl, tl2, isCallR, entX, argFr, ret, retI, retB, intT, unT, endR, ressR, resR, tupT, bslR, boxR, lenAll, ↓reduceIte, Nat.reduceEqDiff, Nat.reduceAdd, Nat.reduceMul, Nat.reduceLT, Nat.reduceLeDiff, reduceCtorEq, Int.reduceLE, Int.reduceLT, ne_eq, Int.reduceEq, not_false_eq_true, decide_true, decide_false, Int.reduceToNat, tl3, Int.reduceBNe, Int.reduceBEq, rmK, rm1, not_true_eq_false]
      refine C2.im (fun _ => c_ref38_Link x (by omega)) (fun _ => rfl) (by rfl) ?_
      simp only [tl, tl2, isCallR, entX, argFr, ret, retI, retB, intT, unT, endR, ressR, resR, tupT, bslR, boxR, lenAll, ↓reduceIte, Nat.reduceEqDiff, Nat.reduceAdd, Nat.reduceMul, Nat.reduceLT, Nat.reduceLeDiff, reduceCtorEq, Int.reduceLE, Int.reduceLT, ne_eq, Int.reduceEq, not_false_eq_true, decide_true, decide_false, Int.reduceToNat, tl3, Int.reduceBNe, Int.reduceBEq, rmK, rm1, not_true_eq_false, bne_self_eq_false]
      refine ⟨by kernel_rfl, ?_⟩
      obtain ⟨rs, hrs2⟩ : ∃ rs, rs = [raw, L, odd] := ⟨_, rfl⟩
      have hrl : rs.length = 3 := by rw [hrs2]; rfl
      have hrsa : ∀ r ∈ rs, r.length ≤ 20 ∧ small r := by
        intro r hr
        rw [hrs2] at hr
        simp only [List.mem_cons, List.not_mem_nil, or_false] at hr
        rcases hr with rfl | rfl | rfl
        · exact ⟨by omega, hraws⟩
        · exact ⟨by omega, hsm⟩
        · exact ⟨by omega, hos⟩
      refine W_loopF mixm (α := Nat) [190] (fun a => a ≤ 3) (fun a => [(190, vI a)]) (fun a => [(139276, .arr 1 (rs.map vEs) false)]) (fun a => 3 - a) 0 (by omega) ?_ fun a ha => ?_
      · refine .of [(139276, some 139276)] [] rfl (by first | rfl | (rw [hst]; rfl)) ?_ ?_
        all_goals (try simp only [ltSto, ltO2, ltO1, ltAs, ltA, ltC, ltCs, ltT, ltFr, ltS, wrOk, wrO, TL.get, hasFr, ↓reduceIte, Nat.reduceEqDiff, reduceCtorEq, Option.getD_some, Option.isSome_some, List.length_map, List.length_append, List.length_cons, List.length_nil, List.append_nil, List.mem_singleton, List.mem_cons, List.not_mem_nil, and_true, true_and, and_self, imp_self, forall_const, false_implies, implies_true, true_implies, or_false, Bool.false_eq_true, Bool.true_eq_false, ImXs_nil, true_or, or_true, false_or, false_and, and_false, rmK, rm1, List.map_append, List.map_cons, List.map_nil, List.cons_append, List.nil_append, hrs2, ltS, List.length_map])
        all_goals (try (repeat' (first
            | exact ltXs_nil
            | (apply ltXs_map; intro _; exact ⟨rfl, rfl⟩)
            | (apply imXs_map; intro _; exact ⟨rfl, rfl⟩)
            | with_reducible apply imXs_append
            | with_reducible refine imXs_cons ⟨rfl, rfl⟩ ?_
            | exact imXs_nil
            | with_reducible apply ltXs_append
            | with_reducible refine ltXs_cons ⟨rfl, rfl, ?_⟩ ?_
            | with_reducible apply And.intro
            | exact ltCs_im rfl
            | exact ltCs_im (by assumption)
            | (refine ⟨⟨?_, rfl, ?_, rfl, ?_⟩, trivial⟩ <;> first | (simp; done) | (apply imXs_map; intro _; exact ⟨rfl, rfl⟩))
            | trivial
            | rfl
            | (rw [i64_succ (by omega)])
            | omega)))
      simp only [tl, tl2, isCallR, entX, argFr, ret, retI, retB, intT, unT, endR, ressR, resR, tupT, bslR, boxR, lenAll, ↓reduceIte, Nat.reduceEqDiff, Nat.reduceAdd, Nat.reduceMul, Nat.reduceLT, Nat.reduceLeDiff, reduceCtorEq, Int.reduceLE, Int.reduceLT, ne_eq, Int.reduceEq, not_false_eq_true, decide_true, decide_false, Int.reduceToNat, tl3, Int.reduceBNe, Int.reduceBEq, rmK, rm1, not_true_eq_false, decide_eq_true_eq, decide_eq_false_iff_not]
      refine ⟨fun h => ?_, fun h => ?_⟩
      · have ha3 : a < rs.length := by omega
        obtain ⟨hr1, hr2⟩ := hrsa rs[a] (List.getElem_mem _)
        have hwa := i64_succ (i := a) (by omega)
        simp only [tl, tl2, isCallR, entX, argFr, ret, retI, retB, intT, unT, endR, ressR, resR, tupT, bslR, boxR, lenAll, ↓reduceIte, Nat.reduceEqDiff, Nat.reduceAdd, Nat.reduceMul, Nat.reduceLT, Nat.reduceLeDiff, reduceCtorEq, Int.reduceLE, Int.reduceLT, ne_eq, Int.reduceEq, not_false_eq_true, decide_true, decide_false, Int.reduceToNat, tl3, Int.reduceBNe, Int.reduceBEq, rmK, rm1, not_true_eq_false, Int.toNat_natCast, getD_mapT ha3, hrl, List.length_map]
        refine ⟨by omega, by omega, ?_⟩
        obtain ⟨r, hr⟩ : ∃ r, r = rs[a] := ⟨_, rfl⟩
        rw [← hr] at hr1 hr2 ⊢
        refine C1.im (c_register_Check r (by omega) hr2) rfl (by rfl) ?_
        simp only [tl, tl2, isCallR, entX, argFr, ret, retI, retB, intT, unT, endR, ressR, resR, tupT, bslR, boxR, lenAll, ↓reduceIte, Nat.reduceEqDiff, Nat.reduceAdd, Nat.reduceMul, Nat.reduceLT, Nat.reduceLeDiff, reduceCtorEq, Int.reduceLE, Int.reduceLT, ne_eq, Int.reduceEq, not_false_eq_true, decide_true, decide_false, Int.reduceToNat, tl3, Int.reduceBNe, Int.reduceBEq, rmK, rm1, not_true_eq_false]
        refine C1.im (c_ref38_Check r (by omega) hr2) rfl (by rfl) ?_
        simp only [tl, tl2, isCallR, entX, argFr, ret, retI, retB, intT, unT, endR, ressR, resR, tupT, bslR, boxR, lenAll, ↓reduceIte, Nat.reduceEqDiff, Nat.reduceAdd, Nat.reduceMul, Nat.reduceLT, Nat.reduceLeDiff, reduceCtorEq, Int.reduceLE, Int.reduceLT, ne_eq, Int.reduceEq, not_false_eq_true, decide_true, decide_false, Int.reduceToNat, tl3, Int.reduceBNe, Int.reduceBEq, rmK, rm1, not_true_eq_false, bne_self_eq_false]
        refine C2.im (fun _ => c_register_InForce r (by omega) hr2) (fun _ => rfl) (by rfl) ?_
        simp only [tl, tl2, isCallR, entX, argFr, ret, retI, retB, intT, unT, endR, ressR, resR, tupT, bslR, boxR, lenAll, ↓reduceIte, Nat.reduceEqDiff, Nat.reduceAdd, Nat.reduceMul, Nat.reduceLT, Nat.reduceLeDiff, reduceCtorEq, Int.reduceLE, Int.reduceLT, ne_eq, Int.reduceEq, not_false_eq_true, decide_true, decide_false, Int.reduceToNat, tl3, Int.reduceBNe, Int.reduceBEq, rmK, rm1, not_true_eq_false]
        refine C2.im (fun _ => c_ref38_InForce r (by omega) hr2) (fun _ => rfl) (by rfl) ?_
        have hfl : (forceA r).length ≤ 60 := by
          by_cases hc0 : chkI r = 0
          · exact forceA_len hc0
          · rw [forceA, if_neg hc0]; simp
        simp only [tl, tl2, isCallR, entX, argFr, ret, retI, retB, intT, unT, endR, ressR, resR, tupT, bslR, boxR, lenAll, ↓reduceIte, Nat.reduceEqDiff, Nat.reduceAdd, Nat.reduceMul, Nat.reduceLT, Nat.reduceLeDiff, reduceCtorEq, Int.reduceLE, Int.reduceLT, ne_eq, Int.reduceEq, not_false_eq_true, decide_true, decide_false, Int.reduceToNat, tl3, Int.reduceBNe, Int.reduceBEq, rmK, rm1, not_true_eq_false]
        refine C2.im (fun _ => c_ref28_Ints (forceA r) (forceA r) (by omega) (by omega)) (fun _ => rfl) (by rfl) ?_
        simp only [tl, tl2, isCallR, entX, argFr, ret, retI, retB, intT, unT, endR, ressR, resR, tupT, bslR, boxR, lenAll, ↓reduceIte, Nat.reduceEqDiff, Nat.reduceAdd, Nat.reduceMul, Nat.reduceLT, Nat.reduceLeDiff, reduceCtorEq, Int.reduceLE, Int.reduceLT, ne_eq, Int.reduceEq, not_false_eq_true, decide_true, decide_false, Int.reduceToNat, tl3, Int.reduceBNe, Int.reduceBEq, rmK, rm1, not_true_eq_false, ints_true]
        refine C1.im (c_draw_Mod out 9 (by omega)) rfl (by rfl) ?_
        simp only [tl, tl2, isCallR, entX, argFr, ret, retI, retB, intT, unT, endR, ressR, resR, tupT, bslR, boxR, lenAll, ↓reduceIte, Nat.reduceEqDiff, Nat.reduceAdd, Nat.reduceMul, Nat.reduceLT, Nat.reduceLeDiff, reduceCtorEq, Int.reduceLE, Int.reduceLT, ne_eq, Int.reduceEq, not_false_eq_true, decide_true, decide_false, Int.reduceToNat, tl3, Int.reduceBNe, Int.reduceBEq, rmK, rm1, not_true_eq_false]
        obtain ⟨ns, hns⟩ : ∃ ns, ns = [out, modI out 9] := ⟨_, rfl⟩
        have hnl : ns.length = 2 := by rw [hns]; rfl
        refine W_loopF mixm (α := Nat) [210, 212] (fun n => n ≤ 2) (fun n => [(210, vIs ns), (212, vI n)]) (fun n => [(139276, .arr 1 (rs.map vEs) false)]) (fun n => 2 - n) 0 (by omega) ?_ fun n hn => ?_
        · refine .of [(139276, some 139276)] [159756] rfl (by first | rfl | (rw [hst]; rfl)) ?_ ?_
          all_goals (try simp only [ltSto, ltO2, ltO1, ltAs, ltA, ltC, ltCs, ltT, ltFr, ltS, wrOk, wrO, TL.get, hasFr, ↓reduceIte, Nat.reduceEqDiff, reduceCtorEq, Option.getD_some, Option.isSome_some, List.length_map, List.length_append, List.length_cons, List.length_nil, List.append_nil, List.mem_singleton, List.mem_cons, List.not_mem_nil, and_true, true_and, and_self, imp_self, forall_const, false_implies, implies_true, true_implies, or_false, Bool.false_eq_true, Bool.true_eq_false, ImXs_nil, true_or, or_true, false_or, false_and, and_false, rmK, rm1, List.map_append, List.map_cons, List.map_nil, List.cons_append, List.nil_append, hns, ltS])
          all_goals (try (repeat' (first
              | exact ltXs_nil
              | (apply ltXs_map; intro _; exact ⟨rfl, rfl⟩)
              | (apply imXs_map; intro _; exact ⟨rfl, rfl⟩)
              | with_reducible apply imXs_append
              | with_reducible refine imXs_cons ⟨rfl, rfl⟩ ?_
              | exact imXs_nil
              | with_reducible apply ltXs_append
              | with_reducible refine ltXs_cons ⟨rfl, rfl, ?_⟩ ?_
              | with_reducible apply And.intro
              | exact ltCs_im rfl
              | exact ltCs_im (by assumption)
              | (refine ⟨⟨?_, rfl, ?_, rfl, ?_⟩, trivial⟩ <;> first | (simp; done) | (apply imXs_map; intro _; exact ⟨rfl, rfl⟩))
              | trivial
              | rfl
              | (rw [i64_succ (by omega)])
              | omega)))
        simp only [tl, tl2, isCallR, entX, argFr, ret, retI, retB, intT, unT, endR, ressR, resR, tupT, bslR, boxR, lenAll, ↓reduceIte, Nat.reduceEqDiff, Nat.reduceAdd, Nat.reduceMul, Nat.reduceLT, Nat.reduceLeDiff, reduceCtorEq, Int.reduceLE, Int.reduceLT, ne_eq, Int.reduceEq, not_false_eq_true, decide_true, decide_false, Int.reduceToNat, tl3, Int.reduceBNe, Int.reduceBEq, rmK, rm1, not_true_eq_false, decide_eq_true_eq, decide_eq_false_iff_not]
        refine ⟨fun h => ?_, fun h => ?_⟩
        · have hn3 : n < ns.length := by omega
          have hwn := i64_succ (i := n) (by omega)
          simp only [tl, tl2, isCallR, entX, argFr, ret, retI, retB, intT, unT, endR, ressR, resR, tupT, bslR, boxR, lenAll, ↓reduceIte, Nat.reduceEqDiff, Nat.reduceAdd, Nat.reduceMul, Nat.reduceLT, Nat.reduceLeDiff, reduceCtorEq, Int.reduceLE, Int.reduceLT, ne_eq, Int.reduceEq, not_false_eq_true, decide_true, decide_false, Int.reduceToNat, tl3, Int.reduceBNe, Int.reduceBEq, rmK, rm1, not_true_eq_false, Int.toNat_natCast, getD_mapT hn3, hnl]
          refine ⟨by omega, ?_⟩
          obtain ⟨N, hN⟩ : ∃ N, N = ns[n] := ⟨_, rfl⟩
          rw [← hN]
          refine C1.im (c_draw_Mod of_ 9 (by omega)) rfl (by rfl) ?_
          simp only [tl, tl2, isCallR, entX, argFr, ret, retI, retB, intT, unT, endR, ressR, resR, tupT, bslR, boxR, lenAll, ↓reduceIte, Nat.reduceEqDiff, Nat.reduceAdd, Nat.reduceMul, Nat.reduceLT, Nat.reduceLeDiff, reduceCtorEq, Int.reduceLE, Int.reduceLT, ne_eq, Int.reduceEq, not_false_eq_true, decide_true, decide_false, Int.reduceToNat, tl3, Int.reduceBNe, Int.reduceBEq, rmK, rm1, not_true_eq_false]
          obtain ⟨ms, hms⟩ : ∃ ns, ns = [of_, modI of_ 9] := ⟨_, rfl⟩
          have hml : ms.length = 2 := by rw [hms]; rfl
          refine W_loopF mixm (α := Nat) [219, 221] (fun m => m ≤ 2) (fun m => [(219, vIs ms), (221, vI m)]) (fun m => [(139276, .arr 1 (rs.map vEs) false)]) (fun m => 2 - m) 0 (by omega) ?_ fun m hm => ?_
          · refine .of [(139276, some 139276)] [172044] rfl (by first | rfl | (rw [hst]; rfl)) ?_ ?_
            all_goals (try simp only [ltSto, ltO2, ltO1, ltAs, ltA, ltC, ltCs, ltT, ltFr, ltS, wrOk, wrO, TL.get, hasFr, ↓reduceIte, Nat.reduceEqDiff, reduceCtorEq, Option.getD_some, Option.isSome_some, List.length_map, List.length_append, List.length_cons, List.length_nil, List.append_nil, List.mem_singleton, List.mem_cons, List.not_mem_nil, and_true, true_and, and_self, imp_self, forall_const, false_implies, implies_true, true_implies, or_false, Bool.false_eq_true, Bool.true_eq_false, ImXs_nil, true_or, or_true, false_or, false_and, and_false, rmK, rm1, List.map_append, List.map_cons, List.map_nil, List.cons_append, List.nil_append, hms, ltS])
            all_goals (try (repeat' (first
                | exact ltXs_nil
                | (apply ltXs_map; intro _; exact ⟨rfl, rfl⟩)
                | (apply imXs_map; intro _; exact ⟨rfl, rfl⟩)
                | with_reducible apply imXs_append
                | with_reducible refine imXs_cons ⟨rfl, rfl⟩ ?_
                | exact imXs_nil
                | with_reducible apply ltXs_append
                | with_reducible refine ltXs_cons ⟨rfl, rfl, ?_⟩ ?_
                | with_reducible apply And.intro
                | exact ltCs_im rfl
                | exact ltCs_im (by assumption)
                | (refine ⟨⟨?_, rfl, ?_, rfl, ?_⟩, trivial⟩ <;> first | (simp; done) | (apply imXs_map; intro _; exact ⟨rfl, rfl⟩))
                | trivial
                | rfl
                | (rw [i64_succ (by omega)])
                | omega)))
          simp only [tl, tl2, isCallR, entX, argFr, ret, retI, retB, intT, unT, endR, ressR, resR, tupT, bslR, boxR, lenAll, ↓reduceIte, Nat.reduceEqDiff, Nat.reduceAdd, Nat.reduceMul, Nat.reduceLT, Nat.reduceLeDiff, reduceCtorEq, Int.reduceLE, Int.reduceLT, ne_eq, Int.reduceEq, not_false_eq_true, decide_true, decide_false, Int.reduceToNat, tl3, Int.reduceBNe, Int.reduceBEq, rmK, rm1, not_true_eq_false, decide_eq_true_eq, decide_eq_false_iff_not]
          refine ⟨fun h => ?_, fun h => ?_⟩
          · have hm3 : m < ms.length := by omega
            have hwm := i64_succ (i := m) (by omega)
            simp only [tl, tl2, isCallR, entX, argFr, ret, retI, retB, intT, unT, endR, ressR, resR, tupT, bslR, boxR, lenAll, ↓reduceIte, Nat.reduceEqDiff, Nat.reduceAdd, Nat.reduceMul, Nat.reduceLT, Nat.reduceLeDiff, reduceCtorEq, Int.reduceLE, Int.reduceLT, ne_eq, Int.reduceEq, not_false_eq_true, decide_true, decide_false, Int.reduceToNat, tl3, Int.reduceBNe, Int.reduceBEq, rmK, rm1, not_true_eq_false, Int.toNat_natCast, getD_mapT hm3, hml]
            refine ⟨by omega, ?_⟩
            obtain ⟨M, hM⟩ : ∃ N, N = ms[m] := ⟨_, rfl⟩
            rw [← hM]
            refine C1.im (c_draw_Mod kind 3 (by omega)) rfl (by rfl) ?_
            have hm6 := mod_range (n := kind) (m := 3) (by omega)
            have hw6 : IntKind.i64.wrap (1 + modI kind 3) = 1 + modI kind 3 := IntWalk.i64_in _ (by omega)
            simp only [tl, tl2, isCallR, entX, argFr, ret, retI, retB, intT, unT, endR, ressR, resR, tupT, bslR, boxR, lenAll, ↓reduceIte, Nat.reduceEqDiff, Nat.reduceAdd, Nat.reduceMul, Nat.reduceLT, Nat.reduceLeDiff, reduceCtorEq, Int.reduceLE, Int.reduceLT, ne_eq, Int.reduceEq, not_false_eq_true, decide_true, decide_false, Int.reduceToNat, tl3, Int.reduceBNe, Int.reduceBEq, rmK, rm1, not_true_eq_false, hw6]
            obtain ⟨ks, hks⟩ : ∃ ns, ns = [kind, 1 + modI kind 3] := ⟨_, rfl⟩
            have hkl' : ks.length = 2 := by rw [hks]; rfl
            refine W_loopF mixm (α := Nat) [229, 231] (fun q => q ≤ 2) (fun q => [(229, vIs ks), (231, vI q)]) (fun q => [(139276, .arr 1 (rs.map vEs) false)]) (fun q => 2 - q) 0 (by omega) ?_ fun q hq => ?_
            · refine .of [(139276, some 139276)] [184336] rfl (by first | rfl | (rw [hst]; rfl)) ?_ ?_
              all_goals (try simp only [ltSto, ltO2, ltO1, ltAs, ltA, ltC, ltCs, ltT, ltFr, ltS, wrOk, wrO, TL.get, hasFr, ↓reduceIte, Nat.reduceEqDiff, reduceCtorEq, Option.getD_some, Option.isSome_some, List.length_map, List.length_append, List.length_cons, List.length_nil, List.append_nil, List.mem_singleton, List.mem_cons, List.not_mem_nil, and_true, true_and, and_self, imp_self, forall_const, false_implies, implies_true, true_implies, or_false, Bool.false_eq_true, Bool.true_eq_false, ImXs_nil, true_or, or_true, false_or, false_and, and_false, rmK, rm1, List.map_append, List.map_cons, List.map_nil, List.cons_append, List.nil_append, hks, ltS])
              all_goals (try (repeat' (first
                  | exact ltXs_nil
                  | (apply ltXs_map; intro _; exact ⟨rfl, rfl⟩)
                  | (apply imXs_map; intro _; exact ⟨rfl, rfl⟩)
                  | with_reducible apply imXs_append
                  | with_reducible refine imXs_cons ⟨rfl, rfl⟩ ?_
                  | exact imXs_nil
                  | with_reducible apply ltXs_append
                  | with_reducible refine ltXs_cons ⟨rfl, rfl, ?_⟩ ?_
                  | with_reducible apply And.intro
                  | exact ltCs_im rfl
                  | exact ltCs_im (by assumption)
                  | (refine ⟨⟨?_, rfl, ?_, rfl, ?_⟩, trivial⟩ <;> first | (simp; done) | (apply imXs_map; intro _; exact ⟨rfl, rfl⟩))
                  | trivial
                  | rfl
                  | (rw [i64_succ (by omega)])
                  | omega)))
            simp only [tl, tl2, isCallR, entX, argFr, ret, retI, retB, intT, unT, endR, ressR, resR, tupT, bslR, boxR, lenAll, ↓reduceIte, Nat.reduceEqDiff, Nat.reduceAdd, Nat.reduceMul, Nat.reduceLT, Nat.reduceLeDiff, reduceCtorEq, Int.reduceLE, Int.reduceLT, ne_eq, Int.reduceEq, not_false_eq_true, decide_true, decide_false, Int.reduceToNat, tl3, Int.reduceBNe, Int.reduceBEq, rmK, rm1, not_true_eq_false, decide_eq_true_eq, decide_eq_false_iff_not]
            refine ⟨fun h => ?_, fun h => ?_⟩
            · have hq3 : q < ks.length := by omega
              have hwq := i64_succ (i := q) (by omega)
              simp only [tl, tl2, isCallR, entX, argFr, ret, retI, retB, intT, unT, endR, ressR, resR, tupT, bslR, boxR, lenAll, ↓reduceIte, Nat.reduceEqDiff, Nat.reduceAdd, Nat.reduceMul, Nat.reduceLT, Nat.reduceLeDiff, reduceCtorEq, Int.reduceLE, Int.reduceLT, ne_eq, Int.reduceEq, not_false_eq_true, decide_true, decide_false, Int.reduceToNat, tl3, Int.reduceBNe, Int.reduceBEq, rmK, rm1, not_true_eq_false, Int.toNat_natCast, getD_mapT hq3, hkl']
              refine ⟨by omega, ?_⟩
              refine C1.im (c_register_Add r ks[q] M N text (by omega) hr2) rfl (by rfl) ?_
              simp only [tl, tl2, isCallR, entX, argFr, ret, retI, retB, intT, unT, endR, ressR, resR, tupT, bslR, boxR, lenAll, ↓reduceIte, Nat.reduceEqDiff, Nat.reduceAdd, Nat.reduceMul, Nat.reduceLT, Nat.reduceLeDiff, reduceCtorEq, Int.reduceLE, Int.reduceLT, ne_eq, Int.reduceEq, not_false_eq_true, decide_true, decide_false, Int.reduceToNat, tl3, Int.reduceBNe, Int.reduceBEq, rmK, rm1, not_true_eq_false]
              refine C1.im (c_ref38_Add r ks[q] M N text (by omega) hr2) rfl (by rfl) ?_
              simp only [tl, tl2, isCallR, entX, argFr, ret, retI, retB, intT, unT, endR, ressR, resR, tupT, bslR, boxR, lenAll, ↓reduceIte, Nat.reduceEqDiff, Nat.reduceAdd, Nat.reduceMul, Nat.reduceLT, Nat.reduceLeDiff, reduceCtorEq, Int.reduceLE, Int.reduceLT, ne_eq, Int.reduceEq, not_false_eq_true, decide_true, decide_false, Int.reduceToNat, tl3, Int.reduceBNe, Int.reduceBEq, rmK, rm1, not_true_eq_false]
              have hal : (addA r ks[q] M N text).1.length ≤ 21 := by
                unfold addA
                split
                · simp only; omega
                · split
                  · simp only; omega
                  · split
                    · simp only; omega
                    · simp; omega
              refine C1.im (c_ref38_Same _ _ (by omega) (by omega)) rfl (by rfl) ?_
              simp only [tl, tl2, isCallR, entX, argFr, ret, retI, retB, intT, unT, endR, ressR, resR, tupT, bslR, boxR, lenAll, ↓reduceIte, Nat.reduceEqDiff, Nat.reduceAdd, Nat.reduceMul, Nat.reduceLT, Nat.reduceLeDiff, reduceCtorEq, Int.reduceLE, Int.reduceLT, ne_eq, Int.reduceEq, not_false_eq_true, decide_true, decide_false, Int.reduceToNat, tl3, Int.reduceBNe, Int.reduceBEq, rmK, rm1, not_true_eq_false, same_true, bne_self_eq_false]
              refine ⟨q + 1, by omega, by omega, ?_⟩
              refine .of [(139276, some 139276)] [] rfl (by first | rfl | (rw [hst]; rfl)) ?_ ?_
              all_goals (try simp only [ltSto, ltO2, ltO1, ltAs, ltA, ltC, ltCs, ltT, ltFr, ltS, wrOk, wrO, TL.get, hasFr, ↓reduceIte, Nat.reduceEqDiff, reduceCtorEq, Option.getD_some, Option.isSome_some, List.length_map, List.length_append, List.length_cons, List.length_nil, List.append_nil, List.mem_singleton, List.mem_cons, List.not_mem_nil, and_true, true_and, and_self, imp_self, forall_const, false_implies, implies_true, true_implies, or_false, Bool.false_eq_true, Bool.true_eq_false, ImXs_nil, true_or, or_true, false_or, false_and, and_false, rmK, rm1, List.map_append, List.map_cons, List.map_nil, List.cons_append, List.nil_append])
              all_goals (try (repeat' (first
                  | exact ltXs_nil
                  | (apply ltXs_map; intro _; exact ⟨rfl, rfl⟩)
                  | (apply imXs_map; intro _; exact ⟨rfl, rfl⟩)
                  | with_reducible apply imXs_append
                  | with_reducible refine imXs_cons ⟨rfl, rfl⟩ ?_
                  | exact imXs_nil
                  | with_reducible apply ltXs_append
                  | with_reducible refine ltXs_cons ⟨rfl, rfl, ?_⟩ ?_
                  | with_reducible apply And.intro
                  | exact ltCs_im rfl
                  | exact ltCs_im (by assumption)
                  | (refine ⟨⟨?_, rfl, ?_, rfl, ?_⟩, trivial⟩ <;> first | (simp; done) | (apply imXs_map; intro _; exact ⟨rfl, rfl⟩))
                  | trivial
                  | rfl
                  | (rw [i64_succ (by omega)])
                  | omega)))
            · refine C1.im (c_register_History r M (by omega) hr2) rfl (by rfl) ?_
              simp only [tl, tl2, isCallR, entX, argFr, ret, retI, retB, intT, unT, endR, ressR, resR, tupT, bslR, boxR, lenAll, ↓reduceIte, Nat.reduceEqDiff, Nat.reduceAdd, Nat.reduceMul, Nat.reduceLT, Nat.reduceLeDiff, reduceCtorEq, Int.reduceLE, Int.reduceLT, ne_eq, Int.reduceEq, not_false_eq_true, decide_true, decide_false, Int.reduceToNat, tl3, Int.reduceBNe, Int.reduceBEq, rmK, rm1, not_true_eq_false]
              refine C1.im (c_ref38_History r M (by omega) hr2) rfl (by rfl) ?_
              simp only [tl, tl2, isCallR, entX, argFr, ret, retI, retB, intT, unT, endR, ressR, resR, tupT, bslR, boxR, lenAll, ↓reduceIte, Nat.reduceEqDiff, Nat.reduceAdd, Nat.reduceMul, Nat.reduceLT, Nat.reduceLeDiff, reduceCtorEq, Int.reduceLE, Int.reduceLT, ne_eq, Int.reduceEq, not_false_eq_true, decide_true, decide_false, Int.reduceToNat, tl3, Int.reduceBNe, Int.reduceBEq, rmK, rm1, not_true_eq_false]
              have hhl : (histA r M).1.length < 4611686018427387904 := by
                unfold histA
                split
                · simp
                · split
                  · simp
                  · have := hist_len (l := r) M.toNat M.toNat
                    simp only [histN]
                    omega
              refine C1.im (c_ref28_Ints _ _ hhl hhl) rfl (by rfl) ?_
              simp only [tl, tl2, isCallR, entX, argFr, ret, retI, retB, intT, unT, endR, ressR, resR, tupT, bslR, boxR, lenAll, ↓reduceIte, Nat.reduceEqDiff, Nat.reduceAdd, Nat.reduceMul, Nat.reduceLT, Nat.reduceLeDiff, reduceCtorEq, Int.reduceLE, Int.reduceLT, ne_eq, Int.reduceEq, not_false_eq_true, decide_true, decide_false, Int.reduceToNat, tl3, Int.reduceBNe, Int.reduceBEq, rmK, rm1, not_true_eq_false, ints_true, bne_self_eq_false]
              refine ⟨m + 1, by omega, by omega, ?_⟩
              refine .of [(139276, some 139276)] [] rfl (by first | rfl | (rw [hst]; rfl)) ?_ ?_
              all_goals (try simp only [ltSto, ltO2, ltO1, ltAs, ltA, ltC, ltCs, ltT, ltFr, ltS, wrOk, wrO, TL.get, hasFr, ↓reduceIte, Nat.reduceEqDiff, reduceCtorEq, Option.getD_some, Option.isSome_some, List.length_map, List.length_append, List.length_cons, List.length_nil, List.append_nil, List.mem_singleton, List.mem_cons, List.not_mem_nil, and_true, true_and, and_self, imp_self, forall_const, false_implies, implies_true, true_implies, or_false, Bool.false_eq_true, Bool.true_eq_false, ImXs_nil, true_or, or_true, false_or, false_and, and_false, rmK, rm1, List.map_append, List.map_cons, List.map_nil, List.cons_append, List.nil_append])
              all_goals (try (repeat' (first
                  | exact ltXs_nil
                  | (apply ltXs_map; intro _; exact ⟨rfl, rfl⟩)
                  | (apply imXs_map; intro _; exact ⟨rfl, rfl⟩)
                  | with_reducible apply imXs_append
                  | with_reducible refine imXs_cons ⟨rfl, rfl⟩ ?_
                  | exact imXs_nil
                  | with_reducible apply ltXs_append
                  | with_reducible refine ltXs_cons ⟨rfl, rfl, ?_⟩ ?_
                  | with_reducible apply And.intro
                  | exact ltCs_im rfl
                  | exact ltCs_im (by assumption)
                  | (refine ⟨⟨?_, rfl, ?_, rfl, ?_⟩, trivial⟩ <;> first | (simp; done) | (apply imXs_map; intro _; exact ⟨rfl, rfl⟩))
                  | trivial
                  | rfl
                  | (rw [i64_succ (by omega)])
                  | omega)))
          · refine C1.im (c_register_Find r N (by omega) hr2) rfl (by rfl) ?_
            simp only [tl, tl2, isCallR, entX, argFr, ret, retI, retB, intT, unT, endR, ressR, resR, tupT, bslR, boxR, lenAll, ↓reduceIte, Nat.reduceEqDiff, Nat.reduceAdd, Nat.reduceMul, Nat.reduceLT, Nat.reduceLeDiff, reduceCtorEq, Int.reduceLE, Int.reduceLT, ne_eq, Int.reduceEq, not_false_eq_true, decide_true, decide_false, Int.reduceToNat, tl3, Int.reduceBNe, Int.reduceBEq, rmK, rm1, not_true_eq_false]
            refine C1.im (c_ref38_Find r N (by omega) hr2) rfl (by rfl) ?_
            simp only [tl, tl2, isCallR, entX, argFr, ret, retI, retB, intT, unT, endR, ressR, resR, tupT, bslR, boxR, lenAll, ↓reduceIte, Nat.reduceEqDiff, Nat.reduceAdd, Nat.reduceMul, Nat.reduceLT, Nat.reduceLeDiff, reduceCtorEq, Int.reduceLE, Int.reduceLT, ne_eq, Int.reduceEq, not_false_eq_true, decide_true, decide_false, Int.reduceToNat, tl3, Int.reduceBNe, Int.reduceBEq, rmK, rm1, not_true_eq_false, bne_self_eq_false]
            refine ⟨n + 1, by omega, by omega, ?_⟩
            refine .of [(139276, some 139276)] [] rfl (by first | rfl | (rw [hst]; rfl)) ?_ ?_
            all_goals (try simp only [ltSto, ltO2, ltO1, ltAs, ltA, ltC, ltCs, ltT, ltFr, ltS, wrOk, wrO, TL.get, hasFr, ↓reduceIte, Nat.reduceEqDiff, reduceCtorEq, Option.getD_some, Option.isSome_some, List.length_map, List.length_append, List.length_cons, List.length_nil, List.append_nil, List.mem_singleton, List.mem_cons, List.not_mem_nil, and_true, true_and, and_self, imp_self, forall_const, false_implies, implies_true, true_implies, or_false, Bool.false_eq_true, Bool.true_eq_false, ImXs_nil, true_or, or_true, false_or, false_and, and_false, rmK, rm1, List.map_append, List.map_cons, List.map_nil, List.cons_append, List.nil_append])
            all_goals (try (repeat' (first
                | exact ltXs_nil
                | (apply ltXs_map; intro _; exact ⟨rfl, rfl⟩)
                | (apply imXs_map; intro _; exact ⟨rfl, rfl⟩)
                | with_reducible apply imXs_append
                | with_reducible refine imXs_cons ⟨rfl, rfl⟩ ?_
                | exact imXs_nil
                | with_reducible apply ltXs_append
                | with_reducible refine ltXs_cons ⟨rfl, rfl, ?_⟩ ?_
                | with_reducible apply And.intro
                | exact ltCs_im rfl
                | exact ltCs_im (by assumption)
                | (refine ⟨⟨?_, rfl, ?_, rfl, ?_⟩, trivial⟩ <;> first | (simp; done) | (apply imXs_map; intro _; exact ⟨rfl, rfl⟩))
                | trivial
                | rfl
                | (rw [i64_succ (by omega)])
                | omega)))
        · refine ⟨a + 1, by omega, by omega, ?_⟩
          refine .of [(139276, some 139276)] [] rfl (by first | rfl | (rw [hst]; rfl)) ?_ ?_
          all_goals (try simp only [ltSto, ltO2, ltO1, ltAs, ltA, ltC, ltCs, ltT, ltFr, ltS, wrOk, wrO, TL.get, hasFr, ↓reduceIte, Nat.reduceEqDiff, reduceCtorEq, Option.getD_some, Option.isSome_some, List.length_map, List.length_append, List.length_cons, List.length_nil, List.append_nil, List.mem_singleton, List.mem_cons, List.not_mem_nil, and_true, true_and, and_self, imp_self, forall_const, false_implies, implies_true, true_implies, or_false, Bool.false_eq_true, Bool.true_eq_false, ImXs_nil, true_or, or_true, false_or, false_and, and_false, rmK, rm1, List.map_append, List.map_cons, List.map_nil, List.cons_append, List.nil_append])
          all_goals (try (repeat' (first
              | exact ltXs_nil
              | (apply ltXs_map; intro _; exact ⟨rfl, rfl⟩)
              | (apply imXs_map; intro _; exact ⟨rfl, rfl⟩)
              | with_reducible apply imXs_append
              | with_reducible refine imXs_cons ⟨rfl, rfl⟩ ?_
              | exact imXs_nil
              | with_reducible apply ltXs_append
              | with_reducible refine ltXs_cons ⟨rfl, rfl, ?_⟩ ?_
              | with_reducible apply And.intro
              | exact ltCs_im rfl
              | exact ltCs_im (by assumption)
              | (refine ⟨⟨?_, rfl, ?_, rfl, ?_⟩, trivial⟩ <;> first | (simp; done) | (apply imXs_map; intro _; exact ⟨rfl, rfl⟩))
              | trivial
              | rfl
              | (rw [i64_succ (by omega)])
              | omega)))
      · refine C1.im c_law38_awake rfl (by rfl) ?_
        simp only [tl, tl2, isCallR, entX, argFr, ret, retI, retB, intT, unT, endR, ressR, resR, tupT, bslR, boxR, lenAll, ↓reduceIte, Nat.reduceEqDiff, Nat.reduceAdd, Nat.reduceMul, Nat.reduceLT, Nat.reduceLeDiff, reduceCtorEq, Int.reduceLE, Int.reduceLT, ne_eq, Int.reduceEq, not_false_eq_true, decide_true, decide_false, Int.reduceToNat, tl3, Int.reduceBNe, Int.reduceBEq, rmK, rm1, not_true_eq_false]
        exact .imR rfl rfl
    · refine ⟨by omega, by omega, by omega, by omega, ?_⟩
      obtain ⟨y, hy⟩ : ∃ y, y = ({ L[k] with before := IntKind.u64.wrap (L[k].before + 1) } : Ent) := ⟨_, rfl⟩
      rw [← hy]
      have hys : y.text.size ≤ 1000000000 := by rw [hy]; show L[k].text.size ≤ 1000000000; omega
      rw [← List.map_set]
      have hkl2 : k < (L.set k y).length := by rw [List.length_set]; exact hkl
      have hgy : (L.set k y)[k] = y := List.getElem_set_self _
      simp only [tl, tl2, isCallR, entX, argFr, ret, retI, retB, intT, unT, endR, ressR, resR, tupT, bslR, boxR, lenAll, ↓reduceIte, Nat.reduceEqDiff, Nat.reduceAdd, Nat.reduceMul, Nat.reduceLT, Nat.reduceLeDiff, reduceCtorEq, Int.reduceLE, Int.reduceLT, ne_eq, Int.reduceEq, not_false_eq_true, decide_true, decide_false, Int.reduceToNat, tl3, Int.reduceBNe, Int.reduceBEq, rmK, rm1, not_true_eq_false, Int.toNat_natCast, getD_mapT hkl2, hgy, List.length_map, List.length_set, ent_all, ent_len]
      refine ⟨by omega, by omega, ?_⟩
      refine C1.im (c_ref38_Link y hys) rfl (by rfl) ?_
      simp only [tl, tl2, isCallR, entX, argFr, ret, retI, retB, intT, unT, endR, ressR, resR, tupT, bslR, boxR, lenAll, ↓reduceIte, Nat.reduceEqDiff, Nat.reduceAdd, Nat.reduceMul, Nat.reduceLT, Nat.reduceLeDiff, reduceCtorEq, Int.reduceLE, Int.reduceLT, ne_eq, Int.reduceEq, not_false_eq_true, decide_true, decide_false, Int.reduceToNat, tl3, Int.reduceBNe, Int.reduceBEq, rmK, rm1, not_true_eq_false, Int.toNat_natCast, getD_mapT hkl2, hgy, List.length_map, List.length_set, rp6, rpOk, ent_len]
      refine ⟨by omega, by omega, ?_⟩
      rw [← List.map_set, List.set_set]
      obtain ⟨odd, ho⟩ : ∃ o, o = L.set k { y with link := linkI y } := ⟨_, rfl⟩
      rw [← ho]
      have hol : odd.length ≤ 8 := by rw [ho, List.length_set]; omega
      have hos : small odd := by rw [ho]; exact set_small hsm (by exact hys)
      have hoL : L.length = odd.length := by rw [ho, List.length_set]
      rw [hoL]
      clear ho
      refine C1.im (c_register_Sum b (by omega)) rfl (by rfl) ?_
      simp only [tl, tl2, isCallR, entX, argFr, ret, retI, retB, intT, unT, endR, ressR, resR, tupT, bslR, boxR, lenAll, ↓reduceIte, Nat.reduceEqDiff, Nat.reduceAdd, Nat.reduceMul, Nat.reduceLT, Nat.reduceLeDiff, reduceCtorEq, Int.reduceLE, Int.reduceLT, ne_eq, Int.reduceEq, not_false_eq_true, decide_true, decide_false, Int.reduceToNat, tl3, Int.reduceBNe, Int.reduceBEq, rmK, rm1, not_true_eq_false]
      refine C1.im (c_ref38_Sum b (by omega)) rfl (by rfl) ?_
      simp only [tl, tl2, isCallR, entX, argFr, ret, retI, retB, intT, unT, endR, ressR, resR, tupT, bslR, boxR, lenAll, ↓reduceIte, Nat.reduceEqDiff, Nat.reduceAdd, Nat.reduceMul, Nat.reduceLT, Nat.reduceLeDiff, reduceCtorEq, Int.reduceLE, Int.reduceLT, ne_eq, Int.reduceEq, not_false_eq_true, decide_true, decide_false, Int.reduceToNat, tl3, Int.reduceBNe, Int.reduceBEq, rmK, rm1, not_true_eq_false, bne_self_eq_false, entT]
      refine C2.im (fun _ => c_register_Link x (by omega)) (fun _ => rfl) (by rfl) ?_
      simp only [tl, tl2, isCallR, entX, argFr, ret, retI, retB, intT, unT, endR, ressR, resR, tupT, bslR, boxR, lenAll, ↓reduceIte, Nat.reduceEqDiff, Nat.reduceAdd, Nat.reduceMul, Nat.reduceLT, Nat.reduceLeDiff, reduceCtorEq, Int.reduceLE, Int.reduceLT, ne_eq, Int.reduceEq, not_false_eq_true, decide_true, decide_false, Int.reduceToNat, tl3, Int.reduceBNe, Int.reduceBEq, rmK, rm1, not_true_eq_false]
      refine C2.im (fun _ => c_ref38_Link x (by omega)) (fun _ => rfl) (by rfl) ?_
      simp only [tl, tl2, isCallR, entX, argFr, ret, retI, retB, intT, unT, endR, ressR, resR, tupT, bslR, boxR, lenAll, ↓reduceIte, Nat.reduceEqDiff, Nat.reduceAdd, Nat.reduceMul, Nat.reduceLT, Nat.reduceLeDiff, reduceCtorEq, Int.reduceLE, Int.reduceLT, ne_eq, Int.reduceEq, not_false_eq_true, decide_true, decide_false, Int.reduceToNat, tl3, Int.reduceBNe, Int.reduceBEq, rmK, rm1, not_true_eq_false, bne_self_eq_false]
      refine ⟨by kernel_rfl, ?_⟩
      obtain ⟨rs, hrs2⟩ : ∃ rs, rs = [raw, L, odd] := ⟨_, rfl⟩
      have hrl : rs.length = 3 := by rw [hrs2]; rfl
      have hrsa : ∀ r ∈ rs, r.length ≤ 20 ∧ small r := by
        intro r hr
        rw [hrs2] at hr
        simp only [List.mem_cons, List.not_mem_nil, or_false] at hr
        rcases hr with rfl | rfl | rfl
        · exact ⟨by omega, hraws⟩
        · exact ⟨by omega, hsm⟩
        · exact ⟨by omega, hos⟩
      refine W_loopF mixm (α := Nat) [190] (fun a => a ≤ 3) (fun a => [(190, vI a)]) (fun a => [(139276, .arr 1 (rs.map vEs) false)]) (fun a => 3 - a) 0 (by omega) ?_ fun a ha => ?_
      · refine .of [(139276, some 139276)] [49152] rfl (by first | rfl | (rw [hst]; rfl)) ?_ ?_
        all_goals (try simp only [ltSto, ltO2, ltO1, ltAs, ltA, ltC, ltCs, ltT, ltFr, ltS, wrOk, wrO, TL.get, hasFr, ↓reduceIte, Nat.reduceEqDiff, reduceCtorEq, Option.getD_some, Option.isSome_some, List.length_map, List.length_append, List.length_cons, List.length_nil, List.append_nil, List.mem_singleton, List.mem_cons, List.not_mem_nil, and_true, true_and, and_self, imp_self, forall_const, false_implies, implies_true, true_implies, or_false, Bool.false_eq_true, Bool.true_eq_false, ImXs_nil, true_or, or_true, false_or, false_and, and_false, rmK, rm1, List.map_append, List.map_cons, List.map_nil, List.cons_append, List.nil_append, hrs2, ltS, List.length_map])
        all_goals (try (repeat' (first
            | exact ltXs_nil
            | (apply ltXs_map; intro _; exact ⟨rfl, rfl⟩)
            | (apply imXs_map; intro _; exact ⟨rfl, rfl⟩)
            | with_reducible apply imXs_append
            | with_reducible refine imXs_cons ⟨rfl, rfl⟩ ?_
            | exact imXs_nil
            | with_reducible apply ltXs_append
            | with_reducible refine ltXs_cons ⟨rfl, rfl, ?_⟩ ?_
            | with_reducible apply And.intro
            | exact ltCs_im rfl
            | exact ltCs_im (by assumption)
            | (refine ⟨⟨?_, rfl, ?_, rfl, ?_⟩, trivial⟩ <;> first | (simp; done) | (apply imXs_map; intro _; exact ⟨rfl, rfl⟩))
            | trivial
            | rfl
            | (rw [i64_succ (by omega)])
            | omega)))
      simp only [tl, tl2, isCallR, entX, argFr, ret, retI, retB, intT, unT, endR, ressR, resR, tupT, bslR, boxR, lenAll, ↓reduceIte, Nat.reduceEqDiff, Nat.reduceAdd, Nat.reduceMul, Nat.reduceLT, Nat.reduceLeDiff, reduceCtorEq, Int.reduceLE, Int.reduceLT, ne_eq, Int.reduceEq, not_false_eq_true, decide_true, decide_false, Int.reduceToNat, tl3, Int.reduceBNe, Int.reduceBEq, rmK, rm1, not_true_eq_false, decide_eq_true_eq, decide_eq_false_iff_not]
      refine ⟨fun h => ?_, fun h => ?_⟩
      · have ha3 : a < rs.length := by omega
        obtain ⟨hr1, hr2⟩ := hrsa rs[a] (List.getElem_mem _)
        have hwa := i64_succ (i := a) (by omega)
        simp only [tl, tl2, isCallR, entX, argFr, ret, retI, retB, intT, unT, endR, ressR, resR, tupT, bslR, boxR, lenAll, ↓reduceIte, Nat.reduceEqDiff, Nat.reduceAdd, Nat.reduceMul, Nat.reduceLT, Nat.reduceLeDiff, reduceCtorEq, Int.reduceLE, Int.reduceLT, ne_eq, Int.reduceEq, not_false_eq_true, decide_true, decide_false, Int.reduceToNat, tl3, Int.reduceBNe, Int.reduceBEq, rmK, rm1, not_true_eq_false, Int.toNat_natCast, getD_mapT ha3, hrl, List.length_map]
        refine ⟨by omega, by omega, ?_⟩
        obtain ⟨r, hr⟩ : ∃ r, r = rs[a] := ⟨_, rfl⟩
        rw [← hr] at hr1 hr2 ⊢
        refine C1.im (c_register_Check r (by omega) hr2) rfl (by rfl) ?_
        simp only [tl, tl2, isCallR, entX, argFr, ret, retI, retB, intT, unT, endR, ressR, resR, tupT, bslR, boxR, lenAll, ↓reduceIte, Nat.reduceEqDiff, Nat.reduceAdd, Nat.reduceMul, Nat.reduceLT, Nat.reduceLeDiff, reduceCtorEq, Int.reduceLE, Int.reduceLT, ne_eq, Int.reduceEq, not_false_eq_true, decide_true, decide_false, Int.reduceToNat, tl3, Int.reduceBNe, Int.reduceBEq, rmK, rm1, not_true_eq_false]
        refine C1.im (c_ref38_Check r (by omega) hr2) rfl (by rfl) ?_
        simp only [tl, tl2, isCallR, entX, argFr, ret, retI, retB, intT, unT, endR, ressR, resR, tupT, bslR, boxR, lenAll, ↓reduceIte, Nat.reduceEqDiff, Nat.reduceAdd, Nat.reduceMul, Nat.reduceLT, Nat.reduceLeDiff, reduceCtorEq, Int.reduceLE, Int.reduceLT, ne_eq, Int.reduceEq, not_false_eq_true, decide_true, decide_false, Int.reduceToNat, tl3, Int.reduceBNe, Int.reduceBEq, rmK, rm1, not_true_eq_false, bne_self_eq_false]
        refine C2.im (fun _ => c_register_InForce r (by omega) hr2) (fun _ => rfl) (by rfl) ?_
        simp only [tl, tl2, isCallR, entX, argFr, ret, retI, retB, intT, unT, endR, ressR, resR, tupT, bslR, boxR, lenAll, ↓reduceIte, Nat.reduceEqDiff, Nat.reduceAdd, Nat.reduceMul, Nat.reduceLT, Nat.reduceLeDiff, reduceCtorEq, Int.reduceLE, Int.reduceLT, ne_eq, Int.reduceEq, not_false_eq_true, decide_true, decide_false, Int.reduceToNat, tl3, Int.reduceBNe, Int.reduceBEq, rmK, rm1, not_true_eq_false]
        refine C2.im (fun _ => c_ref38_InForce r (by omega) hr2) (fun _ => rfl) (by rfl) ?_
        have hfl : (forceA r).length ≤ 60 := by
          by_cases hc0 : chkI r = 0
          · exact forceA_len hc0
          · rw [forceA, if_neg hc0]; simp
        simp only [tl, tl2, isCallR, entX, argFr, ret, retI, retB, intT, unT, endR, ressR, resR, tupT, bslR, boxR, lenAll, ↓reduceIte, Nat.reduceEqDiff, Nat.reduceAdd, Nat.reduceMul, Nat.reduceLT, Nat.reduceLeDiff, reduceCtorEq, Int.reduceLE, Int.reduceLT, ne_eq, Int.reduceEq, not_false_eq_true, decide_true, decide_false, Int.reduceToNat, tl3, Int.reduceBNe, Int.reduceBEq, rmK, rm1, not_true_eq_false]
        refine C2.im (fun _ => c_ref28_Ints (forceA r) (forceA r) (by omega) (by omega)) (fun _ => rfl) (by rfl) ?_
        simp only [tl, tl2, isCallR, entX, argFr, ret, retI, retB, intT, unT, endR, ressR, resR, tupT, bslR, boxR, lenAll, ↓reduceIte, Nat.reduceEqDiff, Nat.reduceAdd, Nat.reduceMul, Nat.reduceLT, Nat.reduceLeDiff, reduceCtorEq, Int.reduceLE, Int.reduceLT, ne_eq, Int.reduceEq, not_false_eq_true, decide_true, decide_false, Int.reduceToNat, tl3, Int.reduceBNe, Int.reduceBEq, rmK, rm1, not_true_eq_false, ints_true]
        refine C1.im (c_draw_Mod out 9 (by omega)) rfl (by rfl) ?_
        simp only [tl, tl2, isCallR, entX, argFr, ret, retI, retB, intT, unT, endR, ressR, resR, tupT, bslR, boxR, lenAll, ↓reduceIte, Nat.reduceEqDiff, Nat.reduceAdd, Nat.reduceMul, Nat.reduceLT, Nat.reduceLeDiff, reduceCtorEq, Int.reduceLE, Int.reduceLT, ne_eq, Int.reduceEq, not_false_eq_true, decide_true, decide_false, Int.reduceToNat, tl3, Int.reduceBNe, Int.reduceBEq, rmK, rm1, not_true_eq_false]
        obtain ⟨ns, hns⟩ : ∃ ns, ns = [out, modI out 9] := ⟨_, rfl⟩
        have hnl : ns.length = 2 := by rw [hns]; rfl
        refine W_loopF mixm (α := Nat) [210, 212] (fun n => n ≤ 2) (fun n => [(210, vIs ns), (212, vI n)]) (fun n => [(139276, .arr 1 (rs.map vEs) false)]) (fun n => 2 - n) 0 (by omega) ?_ fun n hn => ?_
        · refine .of [(139276, some 139276)] [159756] rfl (by first | rfl | (rw [hst]; rfl)) ?_ ?_
          all_goals (try simp only [ltSto, ltO2, ltO1, ltAs, ltA, ltC, ltCs, ltT, ltFr, ltS, wrOk, wrO, TL.get, hasFr, ↓reduceIte, Nat.reduceEqDiff, reduceCtorEq, Option.getD_some, Option.isSome_some, List.length_map, List.length_append, List.length_cons, List.length_nil, List.append_nil, List.mem_singleton, List.mem_cons, List.not_mem_nil, and_true, true_and, and_self, imp_self, forall_const, false_implies, implies_true, true_implies, or_false, Bool.false_eq_true, Bool.true_eq_false, ImXs_nil, true_or, or_true, false_or, false_and, and_false, rmK, rm1, List.map_append, List.map_cons, List.map_nil, List.cons_append, List.nil_append, hns, ltS])
          all_goals (try (repeat' (first
              | exact ltXs_nil
              | (apply ltXs_map; intro _; exact ⟨rfl, rfl⟩)
              | (apply imXs_map; intro _; exact ⟨rfl, rfl⟩)
              | with_reducible apply imXs_append
              | with_reducible refine imXs_cons ⟨rfl, rfl⟩ ?_
              | exact imXs_nil
              | with_reducible apply ltXs_append
              | with_reducible refine ltXs_cons ⟨rfl, rfl, ?_⟩ ?_
              | with_reducible apply And.intro
              | exact ltCs_im rfl
              | exact ltCs_im (by assumption)
              | (refine ⟨⟨?_, rfl, ?_, rfl, ?_⟩, trivial⟩ <;> first | (simp; done) | (apply imXs_map; intro _; exact ⟨rfl, rfl⟩))
              | trivial
              | rfl
              | (rw [i64_succ (by omega)])
              | omega)))
        simp only [tl, tl2, isCallR, entX, argFr, ret, retI, retB, intT, unT, endR, ressR, resR, tupT, bslR, boxR, lenAll, ↓reduceIte, Nat.reduceEqDiff, Nat.reduceAdd, Nat.reduceMul, Nat.reduceLT, Nat.reduceLeDiff, reduceCtorEq, Int.reduceLE, Int.reduceLT, ne_eq, Int.reduceEq, not_false_eq_true, decide_true, decide_false, Int.reduceToNat, tl3, Int.reduceBNe, Int.reduceBEq, rmK, rm1, not_true_eq_false, decide_eq_true_eq, decide_eq_false_iff_not]
        refine ⟨fun h => ?_, fun h => ?_⟩
        · have hn3 : n < ns.length := by omega
          have hwn := i64_succ (i := n) (by omega)
          simp only [tl, tl2, isCallR, entX, argFr, ret, retI, retB, intT, unT, endR, ressR, resR, tupT, bslR, boxR, lenAll, ↓reduceIte, Nat.reduceEqDiff, Nat.reduceAdd, Nat.reduceMul, Nat.reduceLT, Nat.reduceLeDiff, reduceCtorEq, Int.reduceLE, Int.reduceLT, ne_eq, Int.reduceEq, not_false_eq_true, decide_true, decide_false, Int.reduceToNat, tl3, Int.reduceBNe, Int.reduceBEq, rmK, rm1, not_true_eq_false, Int.toNat_natCast, getD_mapT hn3, hnl]
          refine ⟨by omega, ?_⟩
          obtain ⟨N, hN⟩ : ∃ N, N = ns[n] := ⟨_, rfl⟩
          rw [← hN]
          refine C1.im (c_draw_Mod of_ 9 (by omega)) rfl (by rfl) ?_
          simp only [tl, tl2, isCallR, entX, argFr, ret, retI, retB, intT, unT, endR, ressR, resR, tupT, bslR, boxR, lenAll, ↓reduceIte, Nat.reduceEqDiff, Nat.reduceAdd, Nat.reduceMul, Nat.reduceLT, Nat.reduceLeDiff, reduceCtorEq, Int.reduceLE, Int.reduceLT, ne_eq, Int.reduceEq, not_false_eq_true, decide_true, decide_false, Int.reduceToNat, tl3, Int.reduceBNe, Int.reduceBEq, rmK, rm1, not_true_eq_false]
          obtain ⟨ms, hms⟩ : ∃ ns, ns = [of_, modI of_ 9] := ⟨_, rfl⟩
          have hml : ms.length = 2 := by rw [hms]; rfl
          refine W_loopF mixm (α := Nat) [219, 221] (fun m => m ≤ 2) (fun m => [(219, vIs ms), (221, vI m)]) (fun m => [(139276, .arr 1 (rs.map vEs) false)]) (fun m => 2 - m) 0 (by omega) ?_ fun m hm => ?_
          · refine .of [(139276, some 139276)] [172044] rfl (by first | rfl | (rw [hst]; rfl)) ?_ ?_
            all_goals (try simp only [ltSto, ltO2, ltO1, ltAs, ltA, ltC, ltCs, ltT, ltFr, ltS, wrOk, wrO, TL.get, hasFr, ↓reduceIte, Nat.reduceEqDiff, reduceCtorEq, Option.getD_some, Option.isSome_some, List.length_map, List.length_append, List.length_cons, List.length_nil, List.append_nil, List.mem_singleton, List.mem_cons, List.not_mem_nil, and_true, true_and, and_self, imp_self, forall_const, false_implies, implies_true, true_implies, or_false, Bool.false_eq_true, Bool.true_eq_false, ImXs_nil, true_or, or_true, false_or, false_and, and_false, rmK, rm1, List.map_append, List.map_cons, List.map_nil, List.cons_append, List.nil_append, hms, ltS])
            all_goals (try (repeat' (first
                | exact ltXs_nil
                | (apply ltXs_map; intro _; exact ⟨rfl, rfl⟩)
                | (apply imXs_map; intro _; exact ⟨rfl, rfl⟩)
                | with_reducible apply imXs_append
                | with_reducible refine imXs_cons ⟨rfl, rfl⟩ ?_
                | exact imXs_nil
                | with_reducible apply ltXs_append
                | with_reducible refine ltXs_cons ⟨rfl, rfl, ?_⟩ ?_
                | with_reducible apply And.intro
                | exact ltCs_im rfl
                | exact ltCs_im (by assumption)
                | (refine ⟨⟨?_, rfl, ?_, rfl, ?_⟩, trivial⟩ <;> first | (simp; done) | (apply imXs_map; intro _; exact ⟨rfl, rfl⟩))
                | trivial
                | rfl
                | (rw [i64_succ (by omega)])
                | omega)))
          simp only [tl, tl2, isCallR, entX, argFr, ret, retI, retB, intT, unT, endR, ressR, resR, tupT, bslR, boxR, lenAll, ↓reduceIte, Nat.reduceEqDiff, Nat.reduceAdd, Nat.reduceMul, Nat.reduceLT, Nat.reduceLeDiff, reduceCtorEq, Int.reduceLE, Int.reduceLT, ne_eq, Int.reduceEq, not_false_eq_true, decide_true, decide_false, Int.reduceToNat, tl3, Int.reduceBNe, Int.reduceBEq, rmK, rm1, not_true_eq_false, decide_eq_true_eq, decide_eq_false_iff_not]
          refine ⟨fun h => ?_, fun h => ?_⟩
          · have hm3 : m < ms.length := by omega
            have hwm := i64_succ (i := m) (by omega)
            simp only [tl, tl2, isCallR, entX, argFr, ret, retI, retB, intT, unT, endR, ressR, resR, tupT, bslR, boxR, lenAll, ↓reduceIte, Nat.reduceEqDiff, Nat.reduceAdd, Nat.reduceMul, Nat.reduceLT, Nat.reduceLeDiff, reduceCtorEq, Int.reduceLE, Int.reduceLT, ne_eq, Int.reduceEq, not_false_eq_true, decide_true, decide_false, Int.reduceToNat, tl3, Int.reduceBNe, Int.reduceBEq, rmK, rm1, not_true_eq_false, Int.toNat_natCast, getD_mapT hm3, hml]
            refine ⟨by omega, ?_⟩
            obtain ⟨M, hM⟩ : ∃ N, N = ms[m] := ⟨_, rfl⟩
            rw [← hM]
            refine C1.im (c_draw_Mod kind 3 (by omega)) rfl (by rfl) ?_
            have hm6 := mod_range (n := kind) (m := 3) (by omega)
            have hw6 : IntKind.i64.wrap (1 + modI kind 3) = 1 + modI kind 3 := IntWalk.i64_in _ (by omega)
            simp only [tl, tl2, isCallR, entX, argFr, ret, retI, retB, intT, unT, endR, ressR, resR, tupT, bslR, boxR, lenAll, ↓reduceIte, Nat.reduceEqDiff, Nat.reduceAdd, Nat.reduceMul, Nat.reduceLT, Nat.reduceLeDiff, reduceCtorEq, Int.reduceLE, Int.reduceLT, ne_eq, Int.reduceEq, not_false_eq_true, decide_true, decide_false, Int.reduceToNat, tl3, Int.reduceBNe, Int.reduceBEq, rmK, rm1, not_true_eq_false, hw6]
            obtain ⟨ks, hks⟩ : ∃ ns, ns = [kind, 1 + modI kind 3] := ⟨_, rfl⟩
            have hkl' : ks.length = 2 := by rw [hks]; rfl
            refine W_loopF mixm (α := Nat) [229, 231] (fun q => q ≤ 2) (fun q => [(229, vIs ks), (231, vI q)]) (fun q => [(139276, .arr 1 (rs.map vEs) false)]) (fun q => 2 - q) 0 (by omega) ?_ fun q hq => ?_
            · refine .of [(139276, some 139276)] [184336] rfl (by first | rfl | (rw [hst]; rfl)) ?_ ?_
              all_goals (try simp only [ltSto, ltO2, ltO1, ltAs, ltA, ltC, ltCs, ltT, ltFr, ltS, wrOk, wrO, TL.get, hasFr, ↓reduceIte, Nat.reduceEqDiff, reduceCtorEq, Option.getD_some, Option.isSome_some, List.length_map, List.length_append, List.length_cons, List.length_nil, List.append_nil, List.mem_singleton, List.mem_cons, List.not_mem_nil, and_true, true_and, and_self, imp_self, forall_const, false_implies, implies_true, true_implies, or_false, Bool.false_eq_true, Bool.true_eq_false, ImXs_nil, true_or, or_true, false_or, false_and, and_false, rmK, rm1, List.map_append, List.map_cons, List.map_nil, List.cons_append, List.nil_append, hks, ltS])
              all_goals (try (repeat' (first
                  | exact ltXs_nil
                  | (apply ltXs_map; intro _; exact ⟨rfl, rfl⟩)
                  | (apply imXs_map; intro _; exact ⟨rfl, rfl⟩)
                  | with_reducible apply imXs_append
                  | with_reducible refine imXs_cons ⟨rfl, rfl⟩ ?_
                  | exact imXs_nil
                  | with_reducible apply ltXs_append
                  | with_reducible refine ltXs_cons ⟨rfl, rfl, ?_⟩ ?_
                  | with_reducible apply And.intro
                  | exact ltCs_im rfl
                  | exact ltCs_im (by assumption)
                  | (refine ⟨⟨?_, rfl, ?_, rfl, ?_⟩, trivial⟩ <;> first | (simp; done) | (apply imXs_map; intro _; exact ⟨rfl, rfl⟩))
                  | trivial
                  | rfl
                  | (rw [i64_succ (by omega)])
                  | omega)))
            simp only [tl, tl2, isCallR, entX, argFr, ret, retI, retB, intT, unT, endR, ressR, resR, tupT, bslR, boxR, lenAll, ↓reduceIte, Nat.reduceEqDiff, Nat.reduceAdd, Nat.reduceMul, Nat.reduceLT, Nat.reduceLeDiff, reduceCtorEq, Int.reduceLE, Int.reduceLT, ne_eq, Int.reduceEq, not_false_eq_true, decide_true, decide_false, Int.reduceToNat, tl3, Int.reduceBNe, Int.reduceBEq, rmK, rm1, not_true_eq_false, decide_eq_true_eq, decide_eq_false_iff_not]
            refine ⟨fun h => ?_, fun h => ?_⟩
            · have hq3 : q < ks.length := by omega
              have hwq := i64_succ (i := q) (by omega)
              simp only [tl, tl2, isCallR, entX, argFr, ret, retI, retB, intT, unT, endR, ressR, resR, tupT, bslR, boxR, lenAll, ↓reduceIte, Nat.reduceEqDiff, Nat.reduceAdd, Nat.reduceMul, Nat.reduceLT, Nat.reduceLeDiff, reduceCtorEq, Int.reduceLE, Int.reduceLT, ne_eq, Int.reduceEq, not_false_eq_true, decide_true, decide_false, Int.reduceToNat, tl3, Int.reduceBNe, Int.reduceBEq, rmK, rm1, not_true_eq_false, Int.toNat_natCast, getD_mapT hq3, hkl']
              refine ⟨by omega, ?_⟩
              refine C1.im (c_register_Add r ks[q] M N text (by omega) hr2) rfl (by rfl) ?_
              simp only [tl, tl2, isCallR, entX, argFr, ret, retI, retB, intT, unT, endR, ressR, resR, tupT, bslR, boxR, lenAll, ↓reduceIte, Nat.reduceEqDiff, Nat.reduceAdd, Nat.reduceMul, Nat.reduceLT, Nat.reduceLeDiff, reduceCtorEq, Int.reduceLE, Int.reduceLT, ne_eq, Int.reduceEq, not_false_eq_true, decide_true, decide_false, Int.reduceToNat, tl3, Int.reduceBNe, Int.reduceBEq, rmK, rm1, not_true_eq_false]
              refine C1.im (c_ref38_Add r ks[q] M N text (by omega) hr2) rfl (by rfl) ?_
              simp only [tl, tl2, isCallR, entX, argFr, ret, retI, retB, intT, unT, endR, ressR, resR, tupT, bslR, boxR, lenAll, ↓reduceIte, Nat.reduceEqDiff, Nat.reduceAdd, Nat.reduceMul, Nat.reduceLT, Nat.reduceLeDiff, reduceCtorEq, Int.reduceLE, Int.reduceLT, ne_eq, Int.reduceEq, not_false_eq_true, decide_true, decide_false, Int.reduceToNat, tl3, Int.reduceBNe, Int.reduceBEq, rmK, rm1, not_true_eq_false]
              have hal : (addA r ks[q] M N text).1.length ≤ 21 := by
                unfold addA
                split
                · simp only; omega
                · split
                  · simp only; omega
                  · split
                    · simp only; omega
                    · simp; omega
              refine C1.im (c_ref38_Same _ _ (by omega) (by omega)) rfl (by rfl) ?_
              simp only [tl, tl2, isCallR, entX, argFr, ret, retI, retB, intT, unT, endR, ressR, resR, tupT, bslR, boxR, lenAll, ↓reduceIte, Nat.reduceEqDiff, Nat.reduceAdd, Nat.reduceMul, Nat.reduceLT, Nat.reduceLeDiff, reduceCtorEq, Int.reduceLE, Int.reduceLT, ne_eq, Int.reduceEq, not_false_eq_true, decide_true, decide_false, Int.reduceToNat, tl3, Int.reduceBNe, Int.reduceBEq, rmK, rm1, not_true_eq_false, same_true, bne_self_eq_false]
              refine ⟨q + 1, by omega, by omega, ?_⟩
              refine .of [(139276, some 139276)] [] rfl (by first | rfl | (rw [hst]; rfl)) ?_ ?_
              all_goals (try simp only [ltSto, ltO2, ltO1, ltAs, ltA, ltC, ltCs, ltT, ltFr, ltS, wrOk, wrO, TL.get, hasFr, ↓reduceIte, Nat.reduceEqDiff, reduceCtorEq, Option.getD_some, Option.isSome_some, List.length_map, List.length_append, List.length_cons, List.length_nil, List.append_nil, List.mem_singleton, List.mem_cons, List.not_mem_nil, and_true, true_and, and_self, imp_self, forall_const, false_implies, implies_true, true_implies, or_false, Bool.false_eq_true, Bool.true_eq_false, ImXs_nil, true_or, or_true, false_or, false_and, and_false, rmK, rm1, List.map_append, List.map_cons, List.map_nil, List.cons_append, List.nil_append])
              all_goals (try (repeat' (first
                  | exact ltXs_nil
                  | (apply ltXs_map; intro _; exact ⟨rfl, rfl⟩)
                  | (apply imXs_map; intro _; exact ⟨rfl, rfl⟩)
                  | with_reducible apply imXs_append
                  | with_reducible refine imXs_cons ⟨rfl, rfl⟩ ?_
                  | exact imXs_nil
                  | with_reducible apply ltXs_append
                  | with_reducible refine ltXs_cons ⟨rfl, rfl, ?_⟩ ?_
                  | with_reducible apply And.intro
                  | exact ltCs_im rfl
                  | exact ltCs_im (by assumption)
                  | (refine ⟨⟨?_, rfl, ?_, rfl, ?_⟩, trivial⟩ <;> first | (simp; done) | (apply imXs_map; intro _; exact ⟨rfl, rfl⟩))
                  | trivial
                  | rfl
                  | (rw [i64_succ (by omega)])
                  | omega)))
            · refine C1.im (c_register_History r M (by omega) hr2) rfl (by rfl) ?_
              simp only [tl, tl2, isCallR, entX, argFr, ret, retI, retB, intT, unT, endR, ressR, resR, tupT, bslR, boxR, lenAll, ↓reduceIte, Nat.reduceEqDiff, Nat.reduceAdd, Nat.reduceMul, Nat.reduceLT, Nat.reduceLeDiff, reduceCtorEq, Int.reduceLE, Int.reduceLT, ne_eq, Int.reduceEq, not_false_eq_true, decide_true, decide_false, Int.reduceToNat, tl3, Int.reduceBNe, Int.reduceBEq, rmK, rm1, not_true_eq_false]
              refine C1.im (c_ref38_History r M (by omega) hr2) rfl (by rfl) ?_
              simp only [tl, tl2, isCallR, entX, argFr, ret, retI, retB, intT, unT, endR, ressR, resR, tupT, bslR, boxR, lenAll, ↓reduceIte, Nat.reduceEqDiff, Nat.reduceAdd, Nat.reduceMul, Nat.reduceLT, Nat.reduceLeDiff, reduceCtorEq, Int.reduceLE, Int.reduceLT, ne_eq, Int.reduceEq, not_false_eq_true, decide_true, decide_false, Int.reduceToNat, tl3, Int.reduceBNe, Int.reduceBEq, rmK, rm1, not_true_eq_false]
              have hhl : (histA r M).1.length < 4611686018427387904 := by
                unfold histA
                split
                · simp
                · split
                  · simp
                  · have := hist_len (l := r) M.toNat M.toNat
                    simp only [histN]
                    omega
              refine C1.im (c_ref28_Ints _ _ hhl hhl) rfl (by rfl) ?_
              simp only [tl, tl2, isCallR, entX, argFr, ret, retI, retB, intT, unT, endR, ressR, resR, tupT, bslR, boxR, lenAll, ↓reduceIte, Nat.reduceEqDiff, Nat.reduceAdd, Nat.reduceMul, Nat.reduceLT, Nat.reduceLeDiff, reduceCtorEq, Int.reduceLE, Int.reduceLT, ne_eq, Int.reduceEq, not_false_eq_true, decide_true, decide_false, Int.reduceToNat, tl3, Int.reduceBNe, Int.reduceBEq, rmK, rm1, not_true_eq_false, ints_true, bne_self_eq_false]
              refine ⟨m + 1, by omega, by omega, ?_⟩
              refine .of [(139276, some 139276)] [] rfl (by first | rfl | (rw [hst]; rfl)) ?_ ?_
              all_goals (try simp only [ltSto, ltO2, ltO1, ltAs, ltA, ltC, ltCs, ltT, ltFr, ltS, wrOk, wrO, TL.get, hasFr, ↓reduceIte, Nat.reduceEqDiff, reduceCtorEq, Option.getD_some, Option.isSome_some, List.length_map, List.length_append, List.length_cons, List.length_nil, List.append_nil, List.mem_singleton, List.mem_cons, List.not_mem_nil, and_true, true_and, and_self, imp_self, forall_const, false_implies, implies_true, true_implies, or_false, Bool.false_eq_true, Bool.true_eq_false, ImXs_nil, true_or, or_true, false_or, false_and, and_false, rmK, rm1, List.map_append, List.map_cons, List.map_nil, List.cons_append, List.nil_append])
              all_goals (try (repeat' (first
                  | exact ltXs_nil
                  | (apply ltXs_map; intro _; exact ⟨rfl, rfl⟩)
                  | (apply imXs_map; intro _; exact ⟨rfl, rfl⟩)
                  | with_reducible apply imXs_append
                  | with_reducible refine imXs_cons ⟨rfl, rfl⟩ ?_
                  | exact imXs_nil
                  | with_reducible apply ltXs_append
                  | with_reducible refine ltXs_cons ⟨rfl, rfl, ?_⟩ ?_
                  | with_reducible apply And.intro
                  | exact ltCs_im rfl
                  | exact ltCs_im (by assumption)
                  | (refine ⟨⟨?_, rfl, ?_, rfl, ?_⟩, trivial⟩ <;> first | (simp; done) | (apply imXs_map; intro _; exact ⟨rfl, rfl⟩))
                  | trivial
                  | rfl
                  | (rw [i64_succ (by omega)])
                  | omega)))
          · refine C1.im (c_register_Find r N (by omega) hr2) rfl (by rfl) ?_
            simp only [tl, tl2, isCallR, entX, argFr, ret, retI, retB, intT, unT, endR, ressR, resR, tupT, bslR, boxR, lenAll, ↓reduceIte, Nat.reduceEqDiff, Nat.reduceAdd, Nat.reduceMul, Nat.reduceLT, Nat.reduceLeDiff, reduceCtorEq, Int.reduceLE, Int.reduceLT, ne_eq, Int.reduceEq, not_false_eq_true, decide_true, decide_false, Int.reduceToNat, tl3, Int.reduceBNe, Int.reduceBEq, rmK, rm1, not_true_eq_false]
            refine C1.im (c_ref38_Find r N (by omega) hr2) rfl (by rfl) ?_
            simp only [tl, tl2, isCallR, entX, argFr, ret, retI, retB, intT, unT, endR, ressR, resR, tupT, bslR, boxR, lenAll, ↓reduceIte, Nat.reduceEqDiff, Nat.reduceAdd, Nat.reduceMul, Nat.reduceLT, Nat.reduceLeDiff, reduceCtorEq, Int.reduceLE, Int.reduceLT, ne_eq, Int.reduceEq, not_false_eq_true, decide_true, decide_false, Int.reduceToNat, tl3, Int.reduceBNe, Int.reduceBEq, rmK, rm1, not_true_eq_false, bne_self_eq_false]
            refine ⟨n + 1, by omega, by omega, ?_⟩
            refine .of [(139276, some 139276)] [] rfl (by first | rfl | (rw [hst]; rfl)) ?_ ?_
            all_goals (try simp only [ltSto, ltO2, ltO1, ltAs, ltA, ltC, ltCs, ltT, ltFr, ltS, wrOk, wrO, TL.get, hasFr, ↓reduceIte, Nat.reduceEqDiff, reduceCtorEq, Option.getD_some, Option.isSome_some, List.length_map, List.length_append, List.length_cons, List.length_nil, List.append_nil, List.mem_singleton, List.mem_cons, List.not_mem_nil, and_true, true_and, and_self, imp_self, forall_const, false_implies, implies_true, true_implies, or_false, Bool.false_eq_true, Bool.true_eq_false, ImXs_nil, true_or, or_true, false_or, false_and, and_false, rmK, rm1, List.map_append, List.map_cons, List.map_nil, List.cons_append, List.nil_append])
            all_goals (try (repeat' (first
                | exact ltXs_nil
                | (apply ltXs_map; intro _; exact ⟨rfl, rfl⟩)
                | (apply imXs_map; intro _; exact ⟨rfl, rfl⟩)
                | with_reducible apply imXs_append
                | with_reducible refine imXs_cons ⟨rfl, rfl⟩ ?_
                | exact imXs_nil
                | with_reducible apply ltXs_append
                | with_reducible refine ltXs_cons ⟨rfl, rfl, ?_⟩ ?_
                | with_reducible apply And.intro
                | exact ltCs_im rfl
                | exact ltCs_im (by assumption)
                | (refine ⟨⟨?_, rfl, ?_, rfl, ?_⟩, trivial⟩ <;> first | (simp; done) | (apply imXs_map; intro _; exact ⟨rfl, rfl⟩))
                | trivial
                | rfl
                | (rw [i64_succ (by omega)])
                | omega)))
        · refine ⟨a + 1, by omega, by omega, ?_⟩
          refine .of [(139276, some 139276)] [] rfl (by first | rfl | (rw [hst]; rfl)) ?_ ?_
          all_goals (try simp only [ltSto, ltO2, ltO1, ltAs, ltA, ltC, ltCs, ltT, ltFr, ltS, wrOk, wrO, TL.get, hasFr, ↓reduceIte, Nat.reduceEqDiff, reduceCtorEq, Option.getD_some, Option.isSome_some, List.length_map, List.length_append, List.length_cons, List.length_nil, List.append_nil, List.mem_singleton, List.mem_cons, List.not_mem_nil, and_true, true_and, and_self, imp_self, forall_const, false_implies, implies_true, true_implies, or_false, Bool.false_eq_true, Bool.true_eq_false, ImXs_nil, true_or, or_true, false_or, false_and, and_false, rmK, rm1, List.map_append, List.map_cons, List.map_nil, List.cons_append, List.nil_append])
          all_goals (try (repeat' (first
              | exact ltXs_nil
              | (apply ltXs_map; intro _; exact ⟨rfl, rfl⟩)
              | (apply imXs_map; intro _; exact ⟨rfl, rfl⟩)
              | with_reducible apply imXs_append
              | with_reducible refine imXs_cons ⟨rfl, rfl⟩ ?_
              | exact imXs_nil
              | with_reducible apply ltXs_append
              | with_reducible refine ltXs_cons ⟨rfl, rfl, ?_⟩ ?_
              | with_reducible apply And.intro
              | exact ltCs_im rfl
              | exact ltCs_im (by assumption)
              | (refine ⟨⟨?_, rfl, ?_, rfl, ?_⟩, trivial⟩ <;> first | (simp; done) | (apply imXs_map; intro _; exact ⟨rfl, rfl⟩))
              | trivial
              | rfl
              | (rw [i64_succ (by omega)])
              | omega)))
      · refine C1.im c_law38_awake rfl (by rfl) ?_
        simp only [tl, tl2, isCallR, entX, argFr, ret, retI, retB, intT, unT, endR, ressR, resR, tupT, bslR, boxR, lenAll, ↓reduceIte, Nat.reduceEqDiff, Nat.reduceAdd, Nat.reduceMul, Nat.reduceLT, Nat.reduceLeDiff, reduceCtorEq, Int.reduceLE, Int.reduceLT, ne_eq, Int.reduceEq, not_false_eq_true, decide_true, decide_false, Int.reduceToNat, tl3, Int.reduceBNe, Int.reduceBEq, rmK, rm1, not_true_eq_false]
        exact .imR rfl rfl
  · obtain ⟨odd, ho⟩ : ∃ o, o = L := ⟨_, rfl⟩
    have hol : odd.length ≤ 8 := by rw [ho]; omega
    have hos : small odd := by rw [ho]; exact hsm
    have hoL : L.length = odd.length := by rw [ho]
    rw [hoL, show (L.map entT) = odd.map entT by rw [ho]]
    refine C1.im (c_register_Sum b (by omega)) rfl (by rfl) ?_
    simp only [tl, tl2, isCallR, entX, argFr, ret, retI, retB, intT, unT, endR, ressR, resR, tupT, bslR, boxR, lenAll, ↓reduceIte, Nat.reduceEqDiff, Nat.reduceAdd, Nat.reduceMul, Nat.reduceLT, Nat.reduceLeDiff, reduceCtorEq, Int.reduceLE, Int.reduceLT, ne_eq, Int.reduceEq, not_false_eq_true, decide_true, decide_false, Int.reduceToNat, tl3, Int.reduceBNe, Int.reduceBEq, rmK, rm1, not_true_eq_false]
    refine C1.im (c_ref38_Sum b (by omega)) rfl (by rfl) ?_
    simp only [tl, tl2, isCallR, entX, argFr, ret, retI, retB, intT, unT, endR, ressR, resR, tupT, bslR, boxR, lenAll, ↓reduceIte, Nat.reduceEqDiff, Nat.reduceAdd, Nat.reduceMul, Nat.reduceLT, Nat.reduceLeDiff, reduceCtorEq, Int.reduceLE, Int.reduceLT, ne_eq, Int.reduceEq, not_false_eq_true, decide_true, decide_false, Int.reduceToNat, tl3, Int.reduceBNe, Int.reduceBEq, rmK, rm1, not_true_eq_false, bne_self_eq_false, entT]
    refine C2.im (fun _ => c_register_Link x (by omega)) (fun _ => rfl) (by rfl) ?_
    simp only [tl, tl2, isCallR, entX, argFr, ret, retI, retB, intT, unT, endR, ressR, resR, tupT, bslR, boxR, lenAll, ↓reduceIte, Nat.reduceEqDiff, Nat.reduceAdd, Nat.reduceMul, Nat.reduceLT, Nat.reduceLeDiff, reduceCtorEq, Int.reduceLE, Int.reduceLT, ne_eq, Int.reduceEq, not_false_eq_true, decide_true, decide_false, Int.reduceToNat, tl3, Int.reduceBNe, Int.reduceBEq, rmK, rm1, not_true_eq_false]
    refine C2.im (fun _ => c_ref38_Link x (by omega)) (fun _ => rfl) (by rfl) ?_
    simp only [tl, tl2, isCallR, entX, argFr, ret, retI, retB, intT, unT, endR, ressR, resR, tupT, bslR, boxR, lenAll, ↓reduceIte, Nat.reduceEqDiff, Nat.reduceAdd, Nat.reduceMul, Nat.reduceLT, Nat.reduceLeDiff, reduceCtorEq, Int.reduceLE, Int.reduceLT, ne_eq, Int.reduceEq, not_false_eq_true, decide_true, decide_false, Int.reduceToNat, tl3, Int.reduceBNe, Int.reduceBEq, rmK, rm1, not_true_eq_false, bne_self_eq_false]
    refine ⟨by kernel_rfl, ?_⟩
    obtain ⟨rs, hrs2⟩ : ∃ rs, rs = [raw, L, odd] := ⟨_, rfl⟩
    have hrl : rs.length = 3 := by rw [hrs2]; rfl
    have hrsa : ∀ r ∈ rs, r.length ≤ 20 ∧ small r := by
      intro r hr
      rw [hrs2] at hr
      simp only [List.mem_cons, List.not_mem_nil, or_false] at hr
      rcases hr with rfl | rfl | rfl
      · exact ⟨by omega, hraws⟩
      · exact ⟨by omega, hsm⟩
      · exact ⟨by omega, hos⟩
    refine W_loopF mixm (α := Nat) [190] (fun a => a ≤ 3) (fun a => [(190, vI a)]) (fun a => [(139276, .arr 1 (rs.map vEs) false)]) (fun a => 3 - a) 0 (by omega) ?_ fun a ha => ?_
    · refine .of [(139276, some 139276)] [49152] rfl (by first | rfl | (rw [hst]; rfl)) ?_ ?_
      all_goals (try simp only [ltSto, ltO2, ltO1, ltAs, ltA, ltC, ltCs, ltT, ltFr, ltS, wrOk, wrO, TL.get, hasFr, ↓reduceIte, Nat.reduceEqDiff, reduceCtorEq, Option.getD_some, Option.isSome_some, List.length_map, List.length_append, List.length_cons, List.length_nil, List.append_nil, List.mem_singleton, List.mem_cons, List.not_mem_nil, and_true, true_and, and_self, imp_self, forall_const, false_implies, implies_true, true_implies, or_false, Bool.false_eq_true, Bool.true_eq_false, ImXs_nil, true_or, or_true, false_or, false_and, and_false, rmK, rm1, List.map_append, List.map_cons, List.map_nil, List.cons_append, List.nil_append, hrs2, ltS, List.length_map])
      all_goals (try (repeat' (first
          | exact ltXs_nil
          | (apply ltXs_map; intro _; exact ⟨rfl, rfl⟩)
          | (apply imXs_map; intro _; exact ⟨rfl, rfl⟩)
          | with_reducible apply imXs_append
          | with_reducible refine imXs_cons ⟨rfl, rfl⟩ ?_
          | exact imXs_nil
          | with_reducible apply ltXs_append
          | with_reducible refine ltXs_cons ⟨rfl, rfl, ?_⟩ ?_
          | with_reducible apply And.intro
          | exact ltCs_im rfl
          | exact ltCs_im (by assumption)
          | (refine ⟨⟨?_, rfl, ?_, rfl, ?_⟩, trivial⟩ <;> first | (simp; done) | (apply imXs_map; intro _; exact ⟨rfl, rfl⟩))
          | trivial
          | rfl
          | (rw [i64_succ (by omega)])
          | omega)))
    simp only [tl, tl2, isCallR, entX, argFr, ret, retI, retB, intT, unT, endR, ressR, resR, tupT, bslR, boxR, lenAll, ↓reduceIte, Nat.reduceEqDiff, Nat.reduceAdd, Nat.reduceMul, Nat.reduceLT, Nat.reduceLeDiff, reduceCtorEq, Int.reduceLE, Int.reduceLT, ne_eq, Int.reduceEq, not_false_eq_true, decide_true, decide_false, Int.reduceToNat, tl3, Int.reduceBNe, Int.reduceBEq, rmK, rm1, not_true_eq_false, decide_eq_true_eq, decide_eq_false_iff_not]
    refine ⟨fun h => ?_, fun h => ?_⟩
    · have ha3 : a < rs.length := by omega
      obtain ⟨hr1, hr2⟩ := hrsa rs[a] (List.getElem_mem _)
      have hwa := i64_succ (i := a) (by omega)
      simp only [tl, tl2, isCallR, entX, argFr, ret, retI, retB, intT, unT, endR, ressR, resR, tupT, bslR, boxR, lenAll, ↓reduceIte, Nat.reduceEqDiff, Nat.reduceAdd, Nat.reduceMul, Nat.reduceLT, Nat.reduceLeDiff, reduceCtorEq, Int.reduceLE, Int.reduceLT, ne_eq, Int.reduceEq, not_false_eq_true, decide_true, decide_false, Int.reduceToNat, tl3, Int.reduceBNe, Int.reduceBEq, rmK, rm1, not_true_eq_false, Int.toNat_natCast, getD_mapT ha3, hrl, List.length_map]
      refine ⟨by omega, by omega, ?_⟩
      obtain ⟨r, hr⟩ : ∃ r, r = rs[a] := ⟨_, rfl⟩
      rw [← hr] at hr1 hr2 ⊢
      refine C1.im (c_register_Check r (by omega) hr2) rfl (by rfl) ?_
      simp only [tl, tl2, isCallR, entX, argFr, ret, retI, retB, intT, unT, endR, ressR, resR, tupT, bslR, boxR, lenAll, ↓reduceIte, Nat.reduceEqDiff, Nat.reduceAdd, Nat.reduceMul, Nat.reduceLT, Nat.reduceLeDiff, reduceCtorEq, Int.reduceLE, Int.reduceLT, ne_eq, Int.reduceEq, not_false_eq_true, decide_true, decide_false, Int.reduceToNat, tl3, Int.reduceBNe, Int.reduceBEq, rmK, rm1, not_true_eq_false]
      refine C1.im (c_ref38_Check r (by omega) hr2) rfl (by rfl) ?_
      simp only [tl, tl2, isCallR, entX, argFr, ret, retI, retB, intT, unT, endR, ressR, resR, tupT, bslR, boxR, lenAll, ↓reduceIte, Nat.reduceEqDiff, Nat.reduceAdd, Nat.reduceMul, Nat.reduceLT, Nat.reduceLeDiff, reduceCtorEq, Int.reduceLE, Int.reduceLT, ne_eq, Int.reduceEq, not_false_eq_true, decide_true, decide_false, Int.reduceToNat, tl3, Int.reduceBNe, Int.reduceBEq, rmK, rm1, not_true_eq_false, bne_self_eq_false]
      refine C2.im (fun _ => c_register_InForce r (by omega) hr2) (fun _ => rfl) (by rfl) ?_
      simp only [tl, tl2, isCallR, entX, argFr, ret, retI, retB, intT, unT, endR, ressR, resR, tupT, bslR, boxR, lenAll, ↓reduceIte, Nat.reduceEqDiff, Nat.reduceAdd, Nat.reduceMul, Nat.reduceLT, Nat.reduceLeDiff, reduceCtorEq, Int.reduceLE, Int.reduceLT, ne_eq, Int.reduceEq, not_false_eq_true, decide_true, decide_false, Int.reduceToNat, tl3, Int.reduceBNe, Int.reduceBEq, rmK, rm1, not_true_eq_false]
      refine C2.im (fun _ => c_ref38_InForce r (by omega) hr2) (fun _ => rfl) (by rfl) ?_
      have hfl : (forceA r).length ≤ 60 := by
        by_cases hc0 : chkI r = 0
        · exact forceA_len hc0
        · rw [forceA, if_neg hc0]; simp
      simp only [tl, tl2, isCallR, entX, argFr, ret, retI, retB, intT, unT, endR, ressR, resR, tupT, bslR, boxR, lenAll, ↓reduceIte, Nat.reduceEqDiff, Nat.reduceAdd, Nat.reduceMul, Nat.reduceLT, Nat.reduceLeDiff, reduceCtorEq, Int.reduceLE, Int.reduceLT, ne_eq, Int.reduceEq, not_false_eq_true, decide_true, decide_false, Int.reduceToNat, tl3, Int.reduceBNe, Int.reduceBEq, rmK, rm1, not_true_eq_false]
      refine C2.im (fun _ => c_ref28_Ints (forceA r) (forceA r) (by omega) (by omega)) (fun _ => rfl) (by rfl) ?_
      simp only [tl, tl2, isCallR, entX, argFr, ret, retI, retB, intT, unT, endR, ressR, resR, tupT, bslR, boxR, lenAll, ↓reduceIte, Nat.reduceEqDiff, Nat.reduceAdd, Nat.reduceMul, Nat.reduceLT, Nat.reduceLeDiff, reduceCtorEq, Int.reduceLE, Int.reduceLT, ne_eq, Int.reduceEq, not_false_eq_true, decide_true, decide_false, Int.reduceToNat, tl3, Int.reduceBNe, Int.reduceBEq, rmK, rm1, not_true_eq_false, ints_true]
      refine C1.im (c_draw_Mod out 9 (by omega)) rfl (by rfl) ?_
      simp only [tl, tl2, isCallR, entX, argFr, ret, retI, retB, intT, unT, endR, ressR, resR, tupT, bslR, boxR, lenAll, ↓reduceIte, Nat.reduceEqDiff, Nat.reduceAdd, Nat.reduceMul, Nat.reduceLT, Nat.reduceLeDiff, reduceCtorEq, Int.reduceLE, Int.reduceLT, ne_eq, Int.reduceEq, not_false_eq_true, decide_true, decide_false, Int.reduceToNat, tl3, Int.reduceBNe, Int.reduceBEq, rmK, rm1, not_true_eq_false]
      obtain ⟨ns, hns⟩ : ∃ ns, ns = [out, modI out 9] := ⟨_, rfl⟩
      have hnl : ns.length = 2 := by rw [hns]; rfl
      refine W_loopF mixm (α := Nat) [210, 212] (fun n => n ≤ 2) (fun n => [(210, vIs ns), (212, vI n)]) (fun n => [(139276, .arr 1 (rs.map vEs) false)]) (fun n => 2 - n) 0 (by omega) ?_ fun n hn => ?_
      · refine .of [(139276, some 139276)] [159756] rfl (by first | rfl | (rw [hst]; rfl)) ?_ ?_
        all_goals (try simp only [ltSto, ltO2, ltO1, ltAs, ltA, ltC, ltCs, ltT, ltFr, ltS, wrOk, wrO, TL.get, hasFr, ↓reduceIte, Nat.reduceEqDiff, reduceCtorEq, Option.getD_some, Option.isSome_some, List.length_map, List.length_append, List.length_cons, List.length_nil, List.append_nil, List.mem_singleton, List.mem_cons, List.not_mem_nil, and_true, true_and, and_self, imp_self, forall_const, false_implies, implies_true, true_implies, or_false, Bool.false_eq_true, Bool.true_eq_false, ImXs_nil, true_or, or_true, false_or, false_and, and_false, rmK, rm1, List.map_append, List.map_cons, List.map_nil, List.cons_append, List.nil_append, hns, ltS])
        all_goals (try (repeat' (first
            | exact ltXs_nil
            | (apply ltXs_map; intro _; exact ⟨rfl, rfl⟩)
            | (apply imXs_map; intro _; exact ⟨rfl, rfl⟩)
            | with_reducible apply imXs_append
            | with_reducible refine imXs_cons ⟨rfl, rfl⟩ ?_
            | exact imXs_nil
            | with_reducible apply ltXs_append
            | with_reducible refine ltXs_cons ⟨rfl, rfl, ?_⟩ ?_
            | with_reducible apply And.intro
            | exact ltCs_im rfl
            | exact ltCs_im (by assumption)
            | (refine ⟨⟨?_, rfl, ?_, rfl, ?_⟩, trivial⟩ <;> first | (simp; done) | (apply imXs_map; intro _; exact ⟨rfl, rfl⟩))
            | trivial
            | rfl
            | (rw [i64_succ (by omega)])
            | omega)))
      simp only [tl, tl2, isCallR, entX, argFr, ret, retI, retB, intT, unT, endR, ressR, resR, tupT, bslR, boxR, lenAll, ↓reduceIte, Nat.reduceEqDiff, Nat.reduceAdd, Nat.reduceMul, Nat.reduceLT, Nat.reduceLeDiff, reduceCtorEq, Int.reduceLE, Int.reduceLT, ne_eq, Int.reduceEq, not_false_eq_true, decide_true, decide_false, Int.reduceToNat, tl3, Int.reduceBNe, Int.reduceBEq, rmK, rm1, not_true_eq_false, decide_eq_true_eq, decide_eq_false_iff_not]
      refine ⟨fun h => ?_, fun h => ?_⟩
      · have hn3 : n < ns.length := by omega
        have hwn := i64_succ (i := n) (by omega)
        simp only [tl, tl2, isCallR, entX, argFr, ret, retI, retB, intT, unT, endR, ressR, resR, tupT, bslR, boxR, lenAll, ↓reduceIte, Nat.reduceEqDiff, Nat.reduceAdd, Nat.reduceMul, Nat.reduceLT, Nat.reduceLeDiff, reduceCtorEq, Int.reduceLE, Int.reduceLT, ne_eq, Int.reduceEq, not_false_eq_true, decide_true, decide_false, Int.reduceToNat, tl3, Int.reduceBNe, Int.reduceBEq, rmK, rm1, not_true_eq_false, Int.toNat_natCast, getD_mapT hn3, hnl]
        refine ⟨by omega, ?_⟩
        obtain ⟨N, hN⟩ : ∃ N, N = ns[n] := ⟨_, rfl⟩
        rw [← hN]
        refine C1.im (c_draw_Mod of_ 9 (by omega)) rfl (by rfl) ?_
        simp only [tl, tl2, isCallR, entX, argFr, ret, retI, retB, intT, unT, endR, ressR, resR, tupT, bslR, boxR, lenAll, ↓reduceIte, Nat.reduceEqDiff, Nat.reduceAdd, Nat.reduceMul, Nat.reduceLT, Nat.reduceLeDiff, reduceCtorEq, Int.reduceLE, Int.reduceLT, ne_eq, Int.reduceEq, not_false_eq_true, decide_true, decide_false, Int.reduceToNat, tl3, Int.reduceBNe, Int.reduceBEq, rmK, rm1, not_true_eq_false]
        obtain ⟨ms, hms⟩ : ∃ ns, ns = [of_, modI of_ 9] := ⟨_, rfl⟩
        have hml : ms.length = 2 := by rw [hms]; rfl
        refine W_loopF mixm (α := Nat) [219, 221] (fun m => m ≤ 2) (fun m => [(219, vIs ms), (221, vI m)]) (fun m => [(139276, .arr 1 (rs.map vEs) false)]) (fun m => 2 - m) 0 (by omega) ?_ fun m hm => ?_
        · refine .of [(139276, some 139276)] [172044] rfl (by first | rfl | (rw [hst]; rfl)) ?_ ?_
          all_goals (try simp only [ltSto, ltO2, ltO1, ltAs, ltA, ltC, ltCs, ltT, ltFr, ltS, wrOk, wrO, TL.get, hasFr, ↓reduceIte, Nat.reduceEqDiff, reduceCtorEq, Option.getD_some, Option.isSome_some, List.length_map, List.length_append, List.length_cons, List.length_nil, List.append_nil, List.mem_singleton, List.mem_cons, List.not_mem_nil, and_true, true_and, and_self, imp_self, forall_const, false_implies, implies_true, true_implies, or_false, Bool.false_eq_true, Bool.true_eq_false, ImXs_nil, true_or, or_true, false_or, false_and, and_false, rmK, rm1, List.map_append, List.map_cons, List.map_nil, List.cons_append, List.nil_append, hms, ltS])
          all_goals (try (repeat' (first
              | exact ltXs_nil
              | (apply ltXs_map; intro _; exact ⟨rfl, rfl⟩)
              | (apply imXs_map; intro _; exact ⟨rfl, rfl⟩)
              | with_reducible apply imXs_append
              | with_reducible refine imXs_cons ⟨rfl, rfl⟩ ?_
              | exact imXs_nil
              | with_reducible apply ltXs_append
              | with_reducible refine ltXs_cons ⟨rfl, rfl, ?_⟩ ?_
              | with_reducible apply And.intro
              | exact ltCs_im rfl
              | exact ltCs_im (by assumption)
              | (refine ⟨⟨?_, rfl, ?_, rfl, ?_⟩, trivial⟩ <;> first | (simp; done) | (apply imXs_map; intro _; exact ⟨rfl, rfl⟩))
              | trivial
              | rfl
              | (rw [i64_succ (by omega)])
              | omega)))
        simp only [tl, tl2, isCallR, entX, argFr, ret, retI, retB, intT, unT, endR, ressR, resR, tupT, bslR, boxR, lenAll, ↓reduceIte, Nat.reduceEqDiff, Nat.reduceAdd, Nat.reduceMul, Nat.reduceLT, Nat.reduceLeDiff, reduceCtorEq, Int.reduceLE, Int.reduceLT, ne_eq, Int.reduceEq, not_false_eq_true, decide_true, decide_false, Int.reduceToNat, tl3, Int.reduceBNe, Int.reduceBEq, rmK, rm1, not_true_eq_false, decide_eq_true_eq, decide_eq_false_iff_not]
        refine ⟨fun h => ?_, fun h => ?_⟩
        · have hm3 : m < ms.length := by omega
          have hwm := i64_succ (i := m) (by omega)
          simp only [tl, tl2, isCallR, entX, argFr, ret, retI, retB, intT, unT, endR, ressR, resR, tupT, bslR, boxR, lenAll, ↓reduceIte, Nat.reduceEqDiff, Nat.reduceAdd, Nat.reduceMul, Nat.reduceLT, Nat.reduceLeDiff, reduceCtorEq, Int.reduceLE, Int.reduceLT, ne_eq, Int.reduceEq, not_false_eq_true, decide_true, decide_false, Int.reduceToNat, tl3, Int.reduceBNe, Int.reduceBEq, rmK, rm1, not_true_eq_false, Int.toNat_natCast, getD_mapT hm3, hml]
          refine ⟨by omega, ?_⟩
          obtain ⟨M, hM⟩ : ∃ N, N = ms[m] := ⟨_, rfl⟩
          rw [← hM]
          refine C1.im (c_draw_Mod kind 3 (by omega)) rfl (by rfl) ?_
          have hm6 := mod_range (n := kind) (m := 3) (by omega)
          have hw6 : IntKind.i64.wrap (1 + modI kind 3) = 1 + modI kind 3 := IntWalk.i64_in _ (by omega)
          simp only [tl, tl2, isCallR, entX, argFr, ret, retI, retB, intT, unT, endR, ressR, resR, tupT, bslR, boxR, lenAll, ↓reduceIte, Nat.reduceEqDiff, Nat.reduceAdd, Nat.reduceMul, Nat.reduceLT, Nat.reduceLeDiff, reduceCtorEq, Int.reduceLE, Int.reduceLT, ne_eq, Int.reduceEq, not_false_eq_true, decide_true, decide_false, Int.reduceToNat, tl3, Int.reduceBNe, Int.reduceBEq, rmK, rm1, not_true_eq_false, hw6]
          obtain ⟨ks, hks⟩ : ∃ ns, ns = [kind, 1 + modI kind 3] := ⟨_, rfl⟩
          have hkl' : ks.length = 2 := by rw [hks]; rfl
          refine W_loopF mixm (α := Nat) [229, 231] (fun q => q ≤ 2) (fun q => [(229, vIs ks), (231, vI q)]) (fun q => [(139276, .arr 1 (rs.map vEs) false)]) (fun q => 2 - q) 0 (by omega) ?_ fun q hq => ?_
          · refine .of [(139276, some 139276)] [184336] rfl (by first | rfl | (rw [hst]; rfl)) ?_ ?_
            all_goals (try simp only [ltSto, ltO2, ltO1, ltAs, ltA, ltC, ltCs, ltT, ltFr, ltS, wrOk, wrO, TL.get, hasFr, ↓reduceIte, Nat.reduceEqDiff, reduceCtorEq, Option.getD_some, Option.isSome_some, List.length_map, List.length_append, List.length_cons, List.length_nil, List.append_nil, List.mem_singleton, List.mem_cons, List.not_mem_nil, and_true, true_and, and_self, imp_self, forall_const, false_implies, implies_true, true_implies, or_false, Bool.false_eq_true, Bool.true_eq_false, ImXs_nil, true_or, or_true, false_or, false_and, and_false, rmK, rm1, List.map_append, List.map_cons, List.map_nil, List.cons_append, List.nil_append, hks, ltS])
            all_goals (try (repeat' (first
                | exact ltXs_nil
                | (apply ltXs_map; intro _; exact ⟨rfl, rfl⟩)
                | (apply imXs_map; intro _; exact ⟨rfl, rfl⟩)
                | with_reducible apply imXs_append
                | with_reducible refine imXs_cons ⟨rfl, rfl⟩ ?_
                | exact imXs_nil
                | with_reducible apply ltXs_append
                | with_reducible refine ltXs_cons ⟨rfl, rfl, ?_⟩ ?_
                | with_reducible apply And.intro
                | exact ltCs_im rfl
                | exact ltCs_im (by assumption)
                | (refine ⟨⟨?_, rfl, ?_, rfl, ?_⟩, trivial⟩ <;> first | (simp; done) | (apply imXs_map; intro _; exact ⟨rfl, rfl⟩))
                | trivial
                | rfl
                | (rw [i64_succ (by omega)])
                | omega)))
          simp only [tl, tl2, isCallR, entX, argFr, ret, retI, retB, intT, unT, endR, ressR, resR, tupT, bslR, boxR, lenAll, ↓reduceIte, Nat.reduceEqDiff, Nat.reduceAdd, Nat.reduceMul, Nat.reduceLT, Nat.reduceLeDiff, reduceCtorEq, Int.reduceLE, Int.reduceLT, ne_eq, Int.reduceEq, not_false_eq_true, decide_true, decide_false, Int.reduceToNat, tl3, Int.reduceBNe, Int.reduceBEq, rmK, rm1, not_true_eq_false, decide_eq_true_eq, decide_eq_false_iff_not]
          refine ⟨fun h => ?_, fun h => ?_⟩
          · have hq3 : q < ks.length := by omega
            have hwq := i64_succ (i := q) (by omega)
            simp only [tl, tl2, isCallR, entX, argFr, ret, retI, retB, intT, unT, endR, ressR, resR, tupT, bslR, boxR, lenAll, ↓reduceIte, Nat.reduceEqDiff, Nat.reduceAdd, Nat.reduceMul, Nat.reduceLT, Nat.reduceLeDiff, reduceCtorEq, Int.reduceLE, Int.reduceLT, ne_eq, Int.reduceEq, not_false_eq_true, decide_true, decide_false, Int.reduceToNat, tl3, Int.reduceBNe, Int.reduceBEq, rmK, rm1, not_true_eq_false, Int.toNat_natCast, getD_mapT hq3, hkl']
            refine ⟨by omega, ?_⟩
            refine C1.im (c_register_Add r ks[q] M N text (by omega) hr2) rfl (by rfl) ?_
            simp only [tl, tl2, isCallR, entX, argFr, ret, retI, retB, intT, unT, endR, ressR, resR, tupT, bslR, boxR, lenAll, ↓reduceIte, Nat.reduceEqDiff, Nat.reduceAdd, Nat.reduceMul, Nat.reduceLT, Nat.reduceLeDiff, reduceCtorEq, Int.reduceLE, Int.reduceLT, ne_eq, Int.reduceEq, not_false_eq_true, decide_true, decide_false, Int.reduceToNat, tl3, Int.reduceBNe, Int.reduceBEq, rmK, rm1, not_true_eq_false]
            refine C1.im (c_ref38_Add r ks[q] M N text (by omega) hr2) rfl (by rfl) ?_
            simp only [tl, tl2, isCallR, entX, argFr, ret, retI, retB, intT, unT, endR, ressR, resR, tupT, bslR, boxR, lenAll, ↓reduceIte, Nat.reduceEqDiff, Nat.reduceAdd, Nat.reduceMul, Nat.reduceLT, Nat.reduceLeDiff, reduceCtorEq, Int.reduceLE, Int.reduceLT, ne_eq, Int.reduceEq, not_false_eq_true, decide_true, decide_false, Int.reduceToNat, tl3, Int.reduceBNe, Int.reduceBEq, rmK, rm1, not_true_eq_false]
            have hal : (addA r ks[q] M N text).1.length ≤ 21 := by
              unfold addA
              split
              · simp only; omega
              · split
                · simp only; omega
                · split
                  · simp only; omega
                  · simp; omega
            refine C1.im (c_ref38_Same _ _ (by omega) (by omega)) rfl (by rfl) ?_
            simp only [tl, tl2, isCallR, entX, argFr, ret, retI, retB, intT, unT, endR, ressR, resR, tupT, bslR, boxR, lenAll, ↓reduceIte, Nat.reduceEqDiff, Nat.reduceAdd, Nat.reduceMul, Nat.reduceLT, Nat.reduceLeDiff, reduceCtorEq, Int.reduceLE, Int.reduceLT, ne_eq, Int.reduceEq, not_false_eq_true, decide_true, decide_false, Int.reduceToNat, tl3, Int.reduceBNe, Int.reduceBEq, rmK, rm1, not_true_eq_false, same_true, bne_self_eq_false]
            refine ⟨q + 1, by omega, by omega, ?_⟩
            refine .of [(139276, some 139276)] [] rfl (by first | rfl | (rw [hst]; rfl)) ?_ ?_
            all_goals (try simp only [ltSto, ltO2, ltO1, ltAs, ltA, ltC, ltCs, ltT, ltFr, ltS, wrOk, wrO, TL.get, hasFr, ↓reduceIte, Nat.reduceEqDiff, reduceCtorEq, Option.getD_some, Option.isSome_some, List.length_map, List.length_append, List.length_cons, List.length_nil, List.append_nil, List.mem_singleton, List.mem_cons, List.not_mem_nil, and_true, true_and, and_self, imp_self, forall_const, false_implies, implies_true, true_implies, or_false, Bool.false_eq_true, Bool.true_eq_false, ImXs_nil, true_or, or_true, false_or, false_and, and_false, rmK, rm1, List.map_append, List.map_cons, List.map_nil, List.cons_append, List.nil_append])
            all_goals (try (repeat' (first
                | exact ltXs_nil
                | (apply ltXs_map; intro _; exact ⟨rfl, rfl⟩)
                | (apply imXs_map; intro _; exact ⟨rfl, rfl⟩)
                | with_reducible apply imXs_append
                | with_reducible refine imXs_cons ⟨rfl, rfl⟩ ?_
                | exact imXs_nil
                | with_reducible apply ltXs_append
                | with_reducible refine ltXs_cons ⟨rfl, rfl, ?_⟩ ?_
                | with_reducible apply And.intro
                | exact ltCs_im rfl
                | exact ltCs_im (by assumption)
                | (refine ⟨⟨?_, rfl, ?_, rfl, ?_⟩, trivial⟩ <;> first | (simp; done) | (apply imXs_map; intro _; exact ⟨rfl, rfl⟩))
                | trivial
                | rfl
                | (rw [i64_succ (by omega)])
                | omega)))
          · refine C1.im (c_register_History r M (by omega) hr2) rfl (by rfl) ?_
            simp only [tl, tl2, isCallR, entX, argFr, ret, retI, retB, intT, unT, endR, ressR, resR, tupT, bslR, boxR, lenAll, ↓reduceIte, Nat.reduceEqDiff, Nat.reduceAdd, Nat.reduceMul, Nat.reduceLT, Nat.reduceLeDiff, reduceCtorEq, Int.reduceLE, Int.reduceLT, ne_eq, Int.reduceEq, not_false_eq_true, decide_true, decide_false, Int.reduceToNat, tl3, Int.reduceBNe, Int.reduceBEq, rmK, rm1, not_true_eq_false]
            refine C1.im (c_ref38_History r M (by omega) hr2) rfl (by rfl) ?_
            simp only [tl, tl2, isCallR, entX, argFr, ret, retI, retB, intT, unT, endR, ressR, resR, tupT, bslR, boxR, lenAll, ↓reduceIte, Nat.reduceEqDiff, Nat.reduceAdd, Nat.reduceMul, Nat.reduceLT, Nat.reduceLeDiff, reduceCtorEq, Int.reduceLE, Int.reduceLT, ne_eq, Int.reduceEq, not_false_eq_true, decide_true, decide_false, Int.reduceToNat, tl3, Int.reduceBNe, Int.reduceBEq, rmK, rm1, not_true_eq_false]
            have hhl : (histA r M).1.length < 4611686018427387904 := by
              unfold histA
              split
              · simp
              · split
                · simp
                · have := hist_len (l := r) M.toNat M.toNat
                  simp only [histN]
                  omega
            refine C1.im (c_ref28_Ints _ _ hhl hhl) rfl (by rfl) ?_
            simp only [tl, tl2, isCallR, entX, argFr, ret, retI, retB, intT, unT, endR, ressR, resR, tupT, bslR, boxR, lenAll, ↓reduceIte, Nat.reduceEqDiff, Nat.reduceAdd, Nat.reduceMul, Nat.reduceLT, Nat.reduceLeDiff, reduceCtorEq, Int.reduceLE, Int.reduceLT, ne_eq, Int.reduceEq, not_false_eq_true, decide_true, decide_false, Int.reduceToNat, tl3, Int.reduceBNe, Int.reduceBEq, rmK, rm1, not_true_eq_false, ints_true, bne_self_eq_false]
            refine ⟨m + 1, by omega, by omega, ?_⟩
            refine .of [(139276, some 139276)] [] rfl (by first | rfl | (rw [hst]; rfl)) ?_ ?_
            all_goals (try simp only [ltSto, ltO2, ltO1, ltAs, ltA, ltC, ltCs, ltT, ltFr, ltS, wrOk, wrO, TL.get, hasFr, ↓reduceIte, Nat.reduceEqDiff, reduceCtorEq, Option.getD_some, Option.isSome_some, List.length_map, List.length_append, List.length_cons, List.length_nil, List.append_nil, List.mem_singleton, List.mem_cons, List.not_mem_nil, and_true, true_and, and_self, imp_self, forall_const, false_implies, implies_true, true_implies, or_false, Bool.false_eq_true, Bool.true_eq_false, ImXs_nil, true_or, or_true, false_or, false_and, and_false, rmK, rm1, List.map_append, List.map_cons, List.map_nil, List.cons_append, List.nil_append])
            all_goals (try (repeat' (first
                | exact ltXs_nil
                | (apply ltXs_map; intro _; exact ⟨rfl, rfl⟩)
                | (apply imXs_map; intro _; exact ⟨rfl, rfl⟩)
                | with_reducible apply imXs_append
                | with_reducible refine imXs_cons ⟨rfl, rfl⟩ ?_
                | exact imXs_nil
                | with_reducible apply ltXs_append
                | with_reducible refine ltXs_cons ⟨rfl, rfl, ?_⟩ ?_
                | with_reducible apply And.intro
                | exact ltCs_im rfl
                | exact ltCs_im (by assumption)
                | (refine ⟨⟨?_, rfl, ?_, rfl, ?_⟩, trivial⟩ <;> first | (simp; done) | (apply imXs_map; intro _; exact ⟨rfl, rfl⟩))
                | trivial
                | rfl
                | (rw [i64_succ (by omega)])
                | omega)))
        · refine C1.im (c_register_Find r N (by omega) hr2) rfl (by rfl) ?_
          simp only [tl, tl2, isCallR, entX, argFr, ret, retI, retB, intT, unT, endR, ressR, resR, tupT, bslR, boxR, lenAll, ↓reduceIte, Nat.reduceEqDiff, Nat.reduceAdd, Nat.reduceMul, Nat.reduceLT, Nat.reduceLeDiff, reduceCtorEq, Int.reduceLE, Int.reduceLT, ne_eq, Int.reduceEq, not_false_eq_true, decide_true, decide_false, Int.reduceToNat, tl3, Int.reduceBNe, Int.reduceBEq, rmK, rm1, not_true_eq_false]
          refine C1.im (c_ref38_Find r N (by omega) hr2) rfl (by rfl) ?_
          simp only [tl, tl2, isCallR, entX, argFr, ret, retI, retB, intT, unT, endR, ressR, resR, tupT, bslR, boxR, lenAll, ↓reduceIte, Nat.reduceEqDiff, Nat.reduceAdd, Nat.reduceMul, Nat.reduceLT, Nat.reduceLeDiff, reduceCtorEq, Int.reduceLE, Int.reduceLT, ne_eq, Int.reduceEq, not_false_eq_true, decide_true, decide_false, Int.reduceToNat, tl3, Int.reduceBNe, Int.reduceBEq, rmK, rm1, not_true_eq_false, bne_self_eq_false]
          refine ⟨n + 1, by omega, by omega, ?_⟩
          refine .of [(139276, some 139276)] [] rfl (by first | rfl | (rw [hst]; rfl)) ?_ ?_
          all_goals (try simp only [ltSto, ltO2, ltO1, ltAs, ltA, ltC, ltCs, ltT, ltFr, ltS, wrOk, wrO, TL.get, hasFr, ↓reduceIte, Nat.reduceEqDiff, reduceCtorEq, Option.getD_some, Option.isSome_some, List.length_map, List.length_append, List.length_cons, List.length_nil, List.append_nil, List.mem_singleton, List.mem_cons, List.not_mem_nil, and_true, true_and, and_self, imp_self, forall_const, false_implies, implies_true, true_implies, or_false, Bool.false_eq_true, Bool.true_eq_false, ImXs_nil, true_or, or_true, false_or, false_and, and_false, rmK, rm1, List.map_append, List.map_cons, List.map_nil, List.cons_append, List.nil_append])
          all_goals (try (repeat' (first
              | exact ltXs_nil
              | (apply ltXs_map; intro _; exact ⟨rfl, rfl⟩)
              | (apply imXs_map; intro _; exact ⟨rfl, rfl⟩)
              | with_reducible apply imXs_append
              | with_reducible refine imXs_cons ⟨rfl, rfl⟩ ?_
              | exact imXs_nil
              | with_reducible apply ltXs_append
              | with_reducible refine ltXs_cons ⟨rfl, rfl, ?_⟩ ?_
              | with_reducible apply And.intro
              | exact ltCs_im rfl
              | exact ltCs_im (by assumption)
              | (refine ⟨⟨?_, rfl, ?_, rfl, ?_⟩, trivial⟩ <;> first | (simp; done) | (apply imXs_map; intro _; exact ⟨rfl, rfl⟩))
              | trivial
              | rfl
              | (rw [i64_succ (by omega)])
              | omega)))
      · refine ⟨a + 1, by omega, by omega, ?_⟩
        refine .of [(139276, some 139276)] [] rfl (by first | rfl | (rw [hst]; rfl)) ?_ ?_
        all_goals (try simp only [ltSto, ltO2, ltO1, ltAs, ltA, ltC, ltCs, ltT, ltFr, ltS, wrOk, wrO, TL.get, hasFr, ↓reduceIte, Nat.reduceEqDiff, reduceCtorEq, Option.getD_some, Option.isSome_some, List.length_map, List.length_append, List.length_cons, List.length_nil, List.append_nil, List.mem_singleton, List.mem_cons, List.not_mem_nil, and_true, true_and, and_self, imp_self, forall_const, false_implies, implies_true, true_implies, or_false, Bool.false_eq_true, Bool.true_eq_false, ImXs_nil, true_or, or_true, false_or, false_and, and_false, rmK, rm1, List.map_append, List.map_cons, List.map_nil, List.cons_append, List.nil_append])
        all_goals (try (repeat' (first
            | exact ltXs_nil
            | (apply ltXs_map; intro _; exact ⟨rfl, rfl⟩)
            | (apply imXs_map; intro _; exact ⟨rfl, rfl⟩)
            | with_reducible apply imXs_append
            | with_reducible refine imXs_cons ⟨rfl, rfl⟩ ?_
            | exact imXs_nil
            | with_reducible apply ltXs_append
            | with_reducible refine ltXs_cons ⟨rfl, rfl, ?_⟩ ?_
            | with_reducible apply And.intro
            | exact ltCs_im rfl
            | exact ltCs_im (by assumption)
            | (refine ⟨⟨?_, rfl, ?_, rfl, ?_⟩, trivial⟩ <;> first | (simp; done) | (apply imXs_map; intro _; exact ⟨rfl, rfl⟩))
            | trivial
            | rfl
            | (rw [i64_succ (by omega)])
            | omega)))
    · refine C1.im c_law38_awake rfl (by rfl) ?_
      simp only [tl, tl2, isCallR, entX, argFr, ret, retI, retB, intT, unT, endR, ressR, resR, tupT, bslR, boxR, lenAll, ↓reduceIte, Nat.reduceEqDiff, Nat.reduceAdd, Nat.reduceMul, Nat.reduceLT, Nat.reduceLeDiff, reduceCtorEq, Int.reduceLE, Int.reduceLT, ne_eq, Int.reduceEq, not_false_eq_true, decide_true, decide_false, Int.reduceToNat, tl3, Int.reduceBNe, Int.reduceBEq, rmK, rm1, not_true_eq_false]
      exact .imR rfl rfl

end Go.Proofs

