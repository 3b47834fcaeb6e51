import Derived.Test.YtnejebkdlofdoaaO35
import Derived.Test.YtnejebkdlofdoaaRange
import Derived.Test.YtnejebkdlofdoaaMod
set_option linter.unusedSimpArgs false
set_option linter.unusedVariables false
namespace Go.Proofs
open Go Go.TL
/-! ltSto, ltO2, ltO1, ltAs, ltA, ltC, ltC0, ltC0s, ltCs, ltT, ltFr, ltS, wrOk, wrO, TL.get, hasFr, ↓reduceIte, Nat.reduceEqDiff, reduceCtorEq, Option.getD_some, Option.isSome_some, List.length_map, List.length_append, List.length_cons, List.length_nil, List.append_nil, List.mem_singleton, List.mem_cons, List.not_mem_nil, and_true, true_and, and_self, imp_self, forall_const, false_implies, implies_true, true_implies, or_false, Bool.false_eq_true, Bool.true_eq_false, ImXs_nil, true_or, or_true, false_or, false_and, and_false, rmK, rm1# QueueAnswers -/
def ebO (z : Out) : List UInt8 := if validO z = true then encB z else []
def eeO (z : Out) : Int := if validO z = true then 0 else 11
theorem encT_eb (z : Out) : encT z = .tup [vL (ebO z), vI (eeO z)] := by
  unfold encT ebO eeO
  split <;> rfl
theorem ebO_length (z : Out) : (ebO z).length ≤ 3000 := by
  unfold ebO
  split
  · rename_i h; exact encB_length h
  · simp
def putA (a : List UInt8) (x : Out) : List UInt8 := if putE a [] x = 0 then a ++ frame (encB x) else a
theorem putS_nil (a : List UInt8) (x : Out) : putS a [] x = .tup [vF (putA a x) [], vI (putE a [] x)] := by
  unfold putS putA
  rw [List.nil_append]
  split <;> rfl
theorem putA_length {a : List UInt8} {x : Out} (hv : validO x = true) : (putA a x).length ≤ a.length + 3008 := by
  have := encB_length hv
  unfold putA
  split
  · rw [List.length_append, frame_length]; omega
  · omega
theorem putS_gen (a p : List UInt8) (x : Out) : ∃ b q e, putS a p x = .tup [vF b q, vI e] := by
  unfold putS
  split
  · exact ⟨_, _, _, rfl⟩
  · exact ⟨_, _, _, rfl⟩
theorem loadT_gen (a : List UInt8) : ∃ b l e, loadT a = .tup [vF b [], vOs l, vI e] ∧ (∀ y ∈ l, y.sigs.length ≤ 2) ∧ l.length ≤ a.length + 1 := by
  have hv : ∀ (ls : List (List UInt8)) (l : List Out), (∀ y ∈ l, y.sigs.length ≤ 2) → ∀ y ∈ (outsL ls l).2, y.sigs.length ≤ 2 := by
    intro ls
    induction ls with
    | nil => intro l h; exact h
    | cons b bs ih =>
      intro l h
      rw [outsL]
      cases hp : decP b with
      | none => intro y hy; simp at hy
      | some x =>
        obtain ⟨_, _, _, _, _, _, v7, _⟩ := valid_parts (decP_some hp)
        dsimp only
        split
        · intro y hy; simp at hy
        · split
          · refine ih _ fun y hy => ?_
            rcases List.mem_append.1 hy with hy | hy
            · exact h y hy
            · rw [List.mem_singleton.1 hy]; exact v7
          · refine ih _ fun y hy => ?_
            rcases List.mem_or_eq_of_mem_set hy with hy | hy
            · exact h y hy
            · rw [hy]; exact v7
  have h1 := hv (readB a).1 [] (by simp)
  have h2 := outsL_length (readB a).1 []
  have h3 := (readB_small a).2
  unfold loadT
  split
  · exact ⟨_, _, _, rfl, h1, by simp at h2; omega⟩
  · exact ⟨[], [], _, rfl, by simp, by simp⟩
theorem xor_byte (a b : Int) : ∃ c : UInt8, T.v (.int .u8 (xorI .u8 a b)) = byteT c := ⟨_, by unfold xorI; exact byteT_u8 _⟩
theorem modI_lt (n : Int) {m : Nat} (h : 0 < m) : ∃ k : Nat, modI n m = k ∧ k < m := by
  have h1 := Int.emod_nonneg n (b := (m : Int)) (by omega)
  have h2 := Int.emod_lt_of_pos n (b := (m : Int)) (by omega)
  refine ⟨(n % m).toNat, ?_, by omega⟩
  rw [modI, if_neg (by omega)]
  omega
theorem decTT_gen (b : List UInt8) : ∃ o er, decTT b = .tup [outT o, vI er] ∧ o.sigs.length ≤ 2 := by
  unfold decTT
  cases h : decP b with
  | none => exact ⟨_, _, rfl, by simp⟩
  | some o =>
    obtain ⟨_, _, _, _, _, _, v7, _⟩ := valid_parts (decP_some h)
    exact ⟨_, _, rfl, v7⟩
set_option maxHeartbeats 4000000 in
theorem answers_law (x : Out) (d a p l : List UInt8) (n : Int) (hx : x.sigs.length < 4611686018427387904) (hd : d.length < 4611686018427387904) (ha : a.length < 4611686018427387904) (hp : p.length < 4611686018427387904) (ht : x.text.size < 4611686018427387904) :
    Spc Try.prog F_law35_QueueAnswers [outT x, vL d, vF a p, vL l, vI n] [] (vB true) [] := by
  have hl : (l.take 400).length ≤ 400 := by rw [List.length_take]; omega
  generalize hcs : l.take 400 = cs at *
  refine spec_of_cut [7, 22] fn_law35_QueueAnswers mixm (by simp) fun e _ hst => W_start ?_
  unfold ir_law35_QueueAnswers
  simp only [cutAt, List.contains_cons, List.contains_nil, Nat.reduceBEq, Bool.or_false, Bool.or_true, Bool.true_or, Bool.false_or, cond_true, cond_false]
  simp only [tl, tl2, tl4, ↓un_u, isCallR, entX, argFr, ret, retI, retB, intT, unT, endR, ressR, resR, tupT, bslR, boxR, lenAll, ↓reduceIte, Nat.reduceEqDiff, Nat.reduceAdd, Nat.reduceMul, Nat.reduceLT, Nat.reduceLeDiff, reduceCtorEq, Int.reduceLE, Int.reduceLT, ne_eq, Int.reduceEq, not_false_eq_true, decide_true, decide_false, Int.reduceToNat, tl3, Int.reduceBNe, Int.reduceBEq, rmK, rm1, not_true_eq_false]
  refine ⟨fun h => ?_, fun h => ?_⟩
  · refine C1.im c_law35_awake (by rfl) (by rfl) ?_
    simp only [tl, tl2, tl4, ↓un_u, isCallR, entX, argFr, ret, retI, retB, intT, unT, endR, ressR, resR, tupT, bslR, boxR, lenAll, ↓reduceIte, Nat.reduceEqDiff, Nat.reduceAdd, Nat.reduceMul, Nat.reduceLT, Nat.reduceLeDiff, reduceCtorEq, Int.reduceLE, Int.reduceLT, ne_eq, Int.reduceEq, not_false_eq_true, decide_true, decide_false, Int.reduceToNat, tl3, Int.reduceBNe, Int.reduceBEq, rmK, rm1, not_true_eq_false]
    refine .of [] [] rfl (by first | rfl | (rw [hst]; rfl)) ?_ ?_
    all_goals (try exact clA)
  have hx10 : x.sigs.length ≤ 10 ∧ x.text.size ≤ 2000 ∧ d.length ≤ 300 ∧ a.length ≤ 300 ∧ p.length ≤ 300 := by
    simp only [Bool.or_eq_false_iff, decide_eq_false_iff_not] at h
    omega
  clear h
  have r1 := nx_range cs 0 4 (by omega)
  have g1 := nx_le cs 0 4 (Nat.zero_le _)
  have c1 := c_draw_Codes_Range cs 0 1 4 hl (Nat.zero_le _) (by omega) (by omega)
  rw [show (4 : Int) - 1 + 1 = 4 by decide] at c1
  generalize nx cs 0 4 = d1 at *
  have hv := outA_valid cs d1.2 (1 + d1.1) (by omega)
  have g2 := outA_le cs d1.2 (1 + d1.1) g1
  have c2 := c_made_Output cs d1.2 (1 + d1.1) hl g1
  generalize outA cs d1.2 (1 + d1.1) = d2 at *
  obtain ⟨y, a2⟩ := d2
  dsimp only at hv g2 c2
  have c3 := c_draw_Codes_Next cs a2 2 hl g2 (by omega)
  have g3 := nx_le cs a2 2 g2
  generalize nx cs a2 2 = d3 at *
  refine C1.newdraw 16388 (c_draw_New l) rfl (by rfl) ?_
  simp only [tl, tl2, tl4, ↓un_u, isCallR, entX, argFr, ret, retI, retB, intT, unT, endR, ressR, resR, tupT, bslR, boxR, lenAll, ↓reduceIte, Nat.reduceEqDiff, Nat.reduceAdd, Nat.reduceMul, Nat.reduceLT, Nat.reduceLeDiff, reduceCtorEq, Int.reduceLE, Int.reduceLT, ne_eq, Int.reduceEq, not_false_eq_true, decide_true, decide_false, Int.reduceToNat, tl3, Int.reduceBNe, Int.reduceBEq, rmK, rm1, not_true_eq_false, hcs]
  refine C1.draw 16388 cs _ _ c1 rfl rfl rfl ?_
  simp only [tl, tl2, tl4, ↓un_u, isCallR, entX, argFr, ret, retI, retB, intT, unT, endR, ressR, resR, tupT, bslR, boxR, lenAll, ↓reduceIte, Nat.reduceEqDiff, Nat.reduceAdd, Nat.reduceMul, Nat.reduceLT, Nat.reduceLeDiff, reduceCtorEq, Int.reduceLE, Int.reduceLT, ne_eq, Int.reduceEq, not_false_eq_true, decide_true, decide_false, Int.reduceToNat, tl3, Int.reduceBNe, Int.reduceBEq, rmK, rm1, not_true_eq_false]
  refine C1.draw 16388 cs _ _ c2 rfl rfl rfl ?_
  simp only [tl, tl2, tl4, ↓un_u, isCallR, entX, argFr, ret, retI, retB, intT, unT, endR, ressR, resR, tupT, bslR, boxR, lenAll, ↓reduceIte, Nat.reduceEqDiff, Nat.reduceAdd, Nat.reduceMul, Nat.reduceLT, Nat.reduceLeDiff, reduceCtorEq, Int.reduceLE, Int.reduceLT, ne_eq, Int.reduceEq, not_false_eq_true, decide_true, decide_false, Int.reduceToNat, tl3, Int.reduceBNe, Int.reduceBEq, rmK, rm1, not_true_eq_false]
  refine C1.draw 16388 cs _ _ c3 rfl rfl rfl ?_
  simp only [tl, tl2, tl4, ↓un_u, isCallR, entX, argFr, ret, retI, retB, intT, unT, endR, ressR, resR, tupT, bslR, boxR, lenAll, ↓reduceIte, Nat.reduceEqDiff, Nat.reduceAdd, Nat.reduceMul, Nat.reduceLT, Nat.reduceLeDiff, reduceCtorEq, Int.reduceLE, Int.reduceLT, ne_eq, Int.reduceEq, not_false_eq_true, decide_true, decide_false, Int.reduceToNat, tl3, Int.reduceBNe, Int.reduceBEq, rmK, rm1, not_true_eq_false]
  refine ⟨fun h => ?_, fun h => ?_⟩
  focus
    have c4 := c_draw_Codes_Next cs d3.2 9 hl g3 (by omega)
    have g4 := nx_le cs d3.2 9 g3
    generalize nx cs d3.2 9 = d4 at *
    have c5 := c_made_Name cs d4.2 hl g4
    have g5 := nx_le cs d4.2 5 g4
    generalize nx cs d4.2 5 = d5 at *
    have c6 := c_draw_Codes_Next cs d5.2 9 hl g5 (by omega)
    have g6 := nx_le cs d5.2 9 g5
    generalize nx cs d5.2 9 = d6 at *
    have c7 := c_draw_Codes_Range cs d6.2 1 2 hl g6 (by omega) (by omega)
    rw [show (2 : Int) - 1 + 1 = 2 by decide] at c7
    have g7 := nx_le cs d6.2 2 g6
    have r7 := nx_range cs d6.2 2 (by omega)
    generalize nx cs d6.2 2 = d7 at *
    obtain ⟨k7, hk7⟩ := Int.eq_ofNat_of_zero_le r7.1
    refine C1.draw 16388 cs _ _ c4 rfl rfl rfl ?_
    simp only [tl, tl2, tl4, ↓un_u, isCallR, entX, argFr, ret, retI, retB, intT, unT, endR, ressR, resR, tupT, bslR, boxR, lenAll, ↓reduceIte, Nat.reduceEqDiff, Nat.reduceAdd, Nat.reduceMul, Nat.reduceLT, Nat.reduceLeDiff, reduceCtorEq, Int.reduceLE, Int.reduceLT, ne_eq, Int.reduceEq, not_false_eq_true, decide_true, decide_false, Int.reduceToNat, tl3, Int.reduceBNe, Int.reduceBEq, rmK, rm1, not_true_eq_false]
    refine C1.draw 16388 cs _ _ c5 rfl rfl rfl ?_
    simp only [tl, tl2, tl4, ↓un_u, isCallR, entX, argFr, ret, retI, retB, intT, unT, endR, ressR, resR, tupT, bslR, boxR, lenAll, ↓reduceIte, Nat.reduceEqDiff, Nat.reduceAdd, Nat.reduceMul, Nat.reduceLT, Nat.reduceLeDiff, reduceCtorEq, Int.reduceLE, Int.reduceLT, ne_eq, Int.reduceEq, not_false_eq_true, decide_true, decide_false, Int.reduceToNat, tl3, Int.reduceBNe, Int.reduceBEq, rmK, rm1, not_true_eq_false]
    refine C1.draw 16388 cs _ _ c6 rfl rfl rfl ?_
    simp only [tl, tl2, tl4, ↓un_u, isCallR, entX, argFr, ret, retI, retB, intT, unT, endR, ressR, resR, tupT, bslR, boxR, lenAll, ↓reduceIte, Nat.reduceEqDiff, Nat.reduceAdd, Nat.reduceMul, Nat.reduceLT, Nat.reduceLeDiff, reduceCtorEq, Int.reduceLE, Int.reduceLT, ne_eq, Int.reduceEq, not_false_eq_true, decide_true, decide_false, Int.reduceToNat, tl3, Int.reduceBNe, Int.reduceBEq, rmK, rm1, not_true_eq_false]
    refine C1.draw 16388 cs _ _ c7 rfl rfl rfl ?_
    rw [hk7]
    simp only [tl, tl2, tl4, ↓un_u, isCallR, entX, argFr, ret, retI, retB, intT, unT, endR, ressR, resR, tupT, bslR, boxR, lenAll, ↓reduceIte, Nat.reduceEqDiff, Nat.reduceAdd, Nat.reduceMul, Nat.reduceLT, Nat.reduceLeDiff, reduceCtorEq, Int.reduceLE, Int.reduceLT, ne_eq, Int.reduceEq, not_false_eq_true, decide_true, decide_false, Int.reduceToNat, tl3, Int.reduceBNe, Int.reduceBEq, rmK, rm1, not_true_eq_false]
    refine ⟨⟨by intro y hy; simp at hy; rcases hy with rfl | rfl <;> (intro c hc; simp [T.cells] at hc; rcases hc with rfl | rfl <;> rfl), by omega, by omega⟩, ?_⟩
    have hL : ∃ L : List Sig, cutT 0 (1 + (k7 : Int)) [.agg [.v (.string ⟨#[97, 110, 110]⟩), .v (.int .i64 d4.1)], .agg [.v (.string (nmL.getD d5.1.toNat ⟨#[]⟩)), .v (.int .i64 d6.1)]] = L.map sigT ∧ L.length ≤ 2 := by
      have : k7 = 0 ∨ k7 = 1 := by omega
      rcases this with h | h <;> subst h
      · exact ⟨[⟨⟨#[97, 110, 110]⟩, d4.1⟩], rfl, by simp⟩
      · exact ⟨[⟨⟨#[97, 110, 110]⟩, d4.1⟩, ⟨nmL.getD d5.1.toNat ⟨#[]⟩, d6.1⟩], rfl, by simp⟩
    obtain ⟨L, hL, hL2⟩ := hL
    rw [hL]
    refine W_leS [(4096, .arr 7 [outT x] false), (4100, .arr 2 [vF a p] false), (16388, oC cs d7.2), (20496, .arr 7 [outT { y with sigs := L }] false)] ?_ ?_
    · refine .of [(4096, some 4096), (4100, some 4100), (16388, some 16388), (20496, some 20496)] [] rfl (by first | rfl | (rw [hst]; rfl)) ?_ ?_
      all_goals (try exact clA)
    have hzs : ({ y with sigs := L } : Out).sigs.length ≤ 10 := by show L.length ≤ 10; omega
    have hzt : ({ y with sigs := L } : Out).text.size ≤ 2000 := by show y.text.size ≤ 2000; obtain ⟨_, _, _, _, v5, _⟩ := valid_parts hv; omega
    generalize ({ y with sigs := L } : Out) = z at *
    obtain ⟨_, b5⟩ := d7
    dsimp only at g7 ⊢
  rotate_left
  focus
    refine W_leS [(4096, .arr 7 [outT x] false), (4100, .arr 2 [vF a p] false), (16388, oC cs d3.2), (20496, .arr 7 [outT y] false)] ?_ ?_
    · refine .of [(4096, some 4096), (4100, some 4100), (16388, some 16388), (20496, some 20496)] [] rfl (by first | rfl | (rw [hst]; rfl)) ?_ ?_
      all_goals (try exact clA)
    obtain ⟨_, _, _, _, v5, _, v7, _⟩ := valid_parts hv
    have hzs : y.sigs.length ≤ 10 := by omega
    have hzt : y.text.size ≤ 2000 := by omega
    obtain ⟨_, b5⟩ := d3
    have g7 := g3
    dsimp only at g7 ⊢
    generalize y = z at *
  all_goals clear c1 c2 c3
  all_goals
    have c8 := c_draw_Codes_Next cs b5 4 hl g7 (by omega)
    have g8 := nx_le cs b5 4 g7
    have r8 := nx_range cs b5 4 (by omega)
    generalize nx cs b5 4 = d8 at *
    obtain ⟨k8, b8⟩ := d8
    dsimp only at c8 g8 r8
    obtain ⟨k8, rfl⟩ := Int.eq_ofNat_of_zero_le r8.1
    simp only [tl, tl2, tl4, ↓un_u, isCallR, entX, argFr, ret, retI, retB, intT, unT, endR, ressR, resR, tupT, bslR, boxR, lenAll, ↓reduceIte, Nat.reduceEqDiff, Nat.reduceAdd, Nat.reduceMul, Nat.reduceLT, Nat.reduceLeDiff, reduceCtorEq, Int.reduceLE, Int.reduceLT, ne_eq, Int.reduceEq, not_false_eq_true, decide_true, decide_false, Int.reduceToNat, tl3, Int.reduceBNe, Int.reduceBEq, rmK, rm1, not_true_eq_false]
    refine C1.draw 16388 cs _ _ c8 rfl rfl rfl ?_
    simp only [tl, tl2, tl4, ↓un_u, isCallR, entX, argFr, ret, retI, retB, intT, unT, endR, ressR, resR, tupT, bslR, boxR, lenAll, ↓reduceIte, Nat.reduceEqDiff, Nat.reduceAdd, Nat.reduceMul, Nat.reduceLT, Nat.reduceLeDiff, reduceCtorEq, Int.reduceLE, Int.reduceLT, ne_eq, Int.reduceEq, not_false_eq_true, decide_true, decide_false, Int.reduceToNat, tl3, Int.reduceBNe, Int.reduceBEq, rmK, rm1, not_true_eq_false]
    refine W_loopF mixm (α := List UInt8 × Nat × Nat) [14] (fun q => q.1.length + q.2.2 * 3008 ≤ 12032 ∧ q.2.1 ≤ cs.length) (fun q => [(14, vI q.2.2)]) (fun q => [(4096, .arr 7 [outT x] false), (4100, .arr 2 [vF a p] false), (16388, oC cs q.2.1), (20496, .arr 7 [outT z] false), (32768, .arr 2 [vF q.1 []] false)]) (fun q => q.2.2) ([], b8, k8) ⟨by simp; omega, g8⟩ ?_ fun q hq => ?_
    · refine .of [(4096, some 4096), (4100, some 4100), (16388, some 16388), (20496, some 20496), (32768, some 32768)] [] rfl (by first | rfl | (rw [hst]; rfl)) ?_ ?_
      all_goals (try simp only [ltSto, ltO2, ltO1, ltAs, ltA, ltC, ltC0, ltC0s, ltCs, ltT, ltFr, ltS, wrOk, wrO, TL.get, hasFr, ↓reduceIte, Nat.reduceEqDiff, reduceCtorEq, Option.getD_some, Option.isSome_some, List.length_map, List.length_append, List.length_cons, List.length_nil, List.append_nil, List.mem_singleton, List.mem_cons, List.not_mem_nil, and_true, true_and, and_self, imp_self, forall_const, false_implies, implies_true, true_implies, or_false, Bool.false_eq_true, Bool.true_eq_false, ImXs_nil, true_or, or_true, false_or, false_and, and_false, rmK, rm1, List.map_append, List.map_cons, List.map_nil, List.cons_append, List.nil_append, List.map_nil])
      all_goals (try (repeat' (first | exact ltXs_nil | (apply ltXs_map; intro _; exact ⟨rfl, rfl⟩) | (apply imXs_map; intro _; exact ⟨rfl, rfl⟩) | with_reducible apply imXs_append | with_reducible refine imXs_cons ⟨rfl, rfl⟩ ?_ | exact imXs_nil | with_reducible apply ltXs_append | with_reducible refine ltXs_cons ⟨rfl, rfl, ?_⟩ ?_ | with_reducible apply And.intro | exact ltCs_im rfl | exact ltCs_im (by assumption) | (refine ⟨⟨?_, rfl, ?_, rfl, ?_⟩, trivial⟩ <;> first | (simp; done) | (apply imXs_map; intro _; exact ⟨rfl, rfl⟩)) | trivial | rfl | (rw [i64_succ (by omega)]) | omega)))
    obtain ⟨b, b9, k⟩ := q
    obtain ⟨q1, q2⟩ := hq
    dsimp only at q1 q2
    simp only [tl, tl2, tl4, ↓un_u, isCallR, entX, argFr, ret, retI, retB, intT, unT, endR, ressR, resR, tupT, bslR, boxR, lenAll, ↓reduceIte, Nat.reduceEqDiff, Nat.reduceAdd, Nat.reduceMul, Nat.reduceLT, Nat.reduceLeDiff, reduceCtorEq, Int.reduceLE, Int.reduceLT, ne_eq, Int.reduceEq, not_false_eq_true, decide_true, decide_false, Int.reduceToNat, tl3, Int.reduceBNe, Int.reduceBEq, rmK, rm1, not_true_eq_false, decide_eq_true_eq, decide_eq_false_iff_not]
    refine ⟨fun h3 => ?_, fun h3 => ?_⟩
    · obtain ⟨k, rfl⟩ : ∃ j, k = j + 1 := ⟨k - 1, by omega⟩
      have hwk : IntKind.i64.wrap (((k + 1 : Nat) : Int) - 1) = (k : Int) := by rw [IntWalk.i64_in _ (by omega)]; omega
      have r9 := nx_range cs b9 3 (by omega)
      have g9 := nx_le cs b9 3 q2
      have c9 := c_draw_Codes_Range cs b9 1 3 hl q2 (by omega) (by omega)
      rw [show (3 : Int) - 1 + 1 = 3 by decide] at c9
      generalize nx cs b9 3 = d9 at *
      have hvw := outA_valid cs d9.2 (1 + d9.1) (by omega)
      have g10 := outA_le cs d9.2 (1 + d9.1) g9
      have c10 := c_made_Output cs d9.2 (1 + d9.1) hl g9
      generalize outA cs d9.2 (1 + d9.1) = d10 at *
      obtain ⟨w, b10⟩ := d10
      dsimp only at hvw g10 c10
      obtain ⟨_, _, _, _, _, _, v7, _⟩ := valid_parts hvw
      have c11 := c_ref35_Put b [] w (by omega) (by omega) (by simp)
      rw [putS_nil] at c11
      have g11 := putA_length (a := b) hvw
      generalize putA b w = b2 at *
      generalize putE b [] w = e2 at *
      refine C1.draw 16388 cs _ _ c9 rfl rfl rfl ?_
      simp only [tl, tl2, tl4, ↓un_u, isCallR, entX, argFr, ret, retI, retB, intT, unT, endR, ressR, resR, tupT, bslR, boxR, lenAll, ↓reduceIte, Nat.reduceEqDiff, Nat.reduceAdd, Nat.reduceMul, Nat.reduceLT, Nat.reduceLeDiff, reduceCtorEq, Int.reduceLE, Int.reduceLT, ne_eq, Int.reduceEq, not_false_eq_true, decide_true, decide_false, Int.reduceToNat, tl3, Int.reduceBNe, Int.reduceBEq, rmK, rm1, not_true_eq_false]
      refine C1.draw 16388 cs _ _ c10 rfl rfl rfl ?_
      simp only [tl, tl2, tl4, ↓un_u, isCallR, entX, argFr, ret, retI, retB, intT, unT, endR, ressR, resR, tupT, bslR, boxR, lenAll, ↓reduceIte, Nat.reduceEqDiff, Nat.reduceAdd, Nat.reduceMul, Nat.reduceLT, Nat.reduceLeDiff, reduceCtorEq, Int.reduceLE, Int.reduceLT, ne_eq, Int.reduceEq, not_false_eq_true, decide_true, decide_false, Int.reduceToNat, tl3, Int.reduceBNe, Int.reduceBEq, rmK, rm1, not_true_eq_false]
      refine C1.im c11 (by rfl) (by rfl) ?_
      simp only [tl, tl2, tl4, ↓un_u, isCallR, entX, argFr, ret, retI, retB, intT, unT, endR, ressR, resR, tupT, bslR, boxR, lenAll, ↓reduceIte, Nat.reduceEqDiff, Nat.reduceAdd, Nat.reduceMul, Nat.reduceLT, Nat.reduceLeDiff, reduceCtorEq, Int.reduceLE, Int.reduceLT, ne_eq, Int.reduceEq, not_false_eq_true, decide_true, decide_false, Int.reduceToNat, tl3, Int.reduceBNe, Int.reduceBEq, rmK, rm1, not_true_eq_false, hwk]
      refine ⟨by kernel_rfl, (b2, b10, k), ⟨by dsimp only; omega, g10⟩, by dsimp only; omega, ?_⟩
      refine .of [(4096, some 4096), (4100, some 4100), (16388, some 16388), (20496, some 20496), (32768, some 32768)] [] rfl (by first | rfl | (rw [hst]; rfl)) ?_ ?_
      all_goals (try exact clA)
    have hE : ∀ w ∈ [x, z], w.sigs.length ≤ 10 := by intro w hw; simp at hw; rcases hw with h | h <;> subst h <;> omega
    have hEl : [x, z].length = 2 := rfl
    refine W_loopF mixm (α := Nat) [111] (fun i => i ≤ 2) (fun i => [(111, vI i)]) (fun i => [(4100, .arr 2 [vF a p] false), (32768, .arr 2 [vF b []] false), (53256, .arr 7 ([x, z].map outT) false)]) (fun i => 2 - i) 0 (by omega) ?_ fun i hi => ?_
    · refine .of [(4100, some 4100), (32768, some 32768), (53256, some 53256)] [] rfl (by first | rfl | (rw [hst]; rfl)) ?_ ?_
      all_goals (try simp only [ltSto, ltO2, ltO1, ltAs, ltA, ltC, ltC0, ltC0s, ltCs, ltT, ltFr, ltS, wrOk, wrO, TL.get, hasFr, ↓reduceIte, Nat.reduceEqDiff, reduceCtorEq, Option.getD_some, Option.isSome_some, List.length_map, List.length_append, List.length_cons, List.length_nil, List.append_nil, List.mem_singleton, List.mem_cons, List.not_mem_nil, and_true, true_and, and_self, imp_self, forall_const, false_implies, implies_true, true_implies, or_false, Bool.false_eq_true, Bool.true_eq_false, ImXs_nil, true_or, or_true, false_or, false_and, and_false, rmK, rm1, List.map_append, List.map_cons, List.map_nil, List.cons_append, List.nil_append, List.map_nil])
      all_goals (try (repeat' (first | exact ltXs_nil | (apply ltXs_map; intro _; exact ⟨rfl, rfl⟩) | (apply imXs_map; intro _; exact ⟨rfl, rfl⟩) | with_reducible apply imXs_append | with_reducible refine imXs_cons ⟨rfl, rfl⟩ ?_ | exact imXs_nil | with_reducible apply ltXs_append | with_reducible refine ltXs_cons ⟨rfl, rfl, ?_⟩ ?_ | with_reducible apply And.intro | exact ltCs_im rfl | exact ltCs_im (by assumption) | (refine ⟨⟨?_, rfl, ?_, rfl, ?_⟩, trivial⟩ <;> first | (simp; done) | (apply imXs_map; intro _; exact ⟨rfl, rfl⟩)) | trivial | rfl | (rw [i64_succ (by omega)]) | omega)))
    generalize [x, z] = E at *
    simp only [tl, tl2, tl4, ↓un_u, isCallR, entX, argFr, ret, retI, retB, intT, unT, endR, ressR, resR, tupT, bslR, boxR, lenAll, ↓reduceIte, Nat.reduceEqDiff, Nat.reduceAdd, Nat.reduceMul, Nat.reduceLT, Nat.reduceLeDiff, reduceCtorEq, Int.reduceLE, Int.reduceLT, ne_eq, Int.reduceEq, not_false_eq_true, decide_true, decide_false, Int.reduceToNat, tl3, Int.reduceBNe, Int.reduceBEq, rmK, rm1, not_true_eq_false, decide_eq_true_eq, decide_eq_false_iff_not]
    refine ⟨fun h3 => ?_, fun h3 => ?_⟩
    · have hi2 : i < E.length := by omega
      have hwi := i64_succ (i := i) (by omega)
      simp only [tl, tl2, tl4, ↓un_u, isCallR, entX, argFr, ret, retI, retB, intT, unT, endR, ressR, resR, tupT, bslR, boxR, lenAll, ↓reduceIte, Nat.reduceEqDiff, Nat.reduceAdd, Nat.reduceMul, Nat.reduceLT, Nat.reduceLeDiff, reduceCtorEq, Int.reduceLE, Int.reduceLT, ne_eq, Int.reduceEq, not_false_eq_true, decide_true, decide_false, Int.reduceToNat, tl3, Int.reduceBNe, Int.reduceBEq, rmK, rm1, not_true_eq_false, Int.toNat_natCast, getD_mapT hi2]
      have hw10 := hE E[i] (List.getElem_mem hi2)
      generalize E[i] = w at *
      refine ⟨⟨hEl, by omega, by omega⟩, ⟨hEl, hi2⟩, ?_⟩
      have e1 := c_queue_Encode w (by omega)
      have e2 := c_ref35_Encode w (by omega)
      have e3 := c_queue_Valid w (by omega)
      have e4 := c_ref35_Valid w (by omega)
      have hbl := ebO_length w
      rw [encT_eb] at e1 e2
      refine C1.im e1 (by rfl) (by rfl) ?_
      simp only [tl, tl2, tl4, ↓un_u, isCallR, entX, argFr, ret, retI, retB, intT, unT, endR, ressR, resR, tupT, bslR, boxR, lenAll, ↓reduceIte, Nat.reduceEqDiff, Nat.reduceAdd, Nat.reduceMul, Nat.reduceLT, Nat.reduceLeDiff, reduceCtorEq, Int.reduceLE, Int.reduceLT, ne_eq, Int.reduceEq, not_false_eq_true, decide_true, decide_false, Int.reduceToNat, tl3, Int.reduceBNe, Int.reduceBEq, rmK, rm1, not_true_eq_false]
      refine C1.im e2 (by rfl) (by rfl) ?_
      simp only [tl, tl2, tl4, ↓un_u, isCallR, entX, argFr, ret, retI, retB, intT, unT, endR, ressR, resR, tupT, bslR, boxR, lenAll, ↓reduceIte, Nat.reduceEqDiff, Nat.reduceAdd, Nat.reduceMul, Nat.reduceLT, Nat.reduceLeDiff, reduceCtorEq, Int.reduceLE, Int.reduceLT, ne_eq, Int.reduceEq, not_false_eq_true, decide_true, decide_false, Int.reduceToNat, tl3, Int.reduceBNe, Int.reduceBEq, rmK, rm1, not_true_eq_false]
      refine C1.im e3 (by rfl) (by rfl) ?_
      simp only [tl, tl2, tl4, ↓un_u, isCallR, entX, argFr, ret, retI, retB, intT, unT, endR, ressR, resR, tupT, bslR, boxR, lenAll, ↓reduceIte, Nat.reduceEqDiff, Nat.reduceAdd, Nat.reduceMul, Nat.reduceLT, Nat.reduceLeDiff, reduceCtorEq, Int.reduceLE, Int.reduceLT, ne_eq, Int.reduceEq, not_false_eq_true, decide_true, decide_false, Int.reduceToNat, tl3, Int.reduceBNe, Int.reduceBEq, rmK, rm1, not_true_eq_false]
      refine C1.im e4 (by rfl) (by rfl) ?_
      simp only [tl, tl2, tl4, ↓un_u, isCallR, entX, argFr, ret, retI, retB, intT, unT, endR, ressR, resR, tupT, bslR, boxR, lenAll, ↓reduceIte, Nat.reduceEqDiff, Nat.reduceAdd, Nat.reduceMul, Nat.reduceLT, Nat.reduceLeDiff, reduceCtorEq, Int.reduceLE, Int.reduceLT, ne_eq, Int.reduceEq, not_false_eq_true, decide_true, decide_false, Int.reduceToNat, tl3, Int.reduceBNe, Int.reduceBEq, rmK, rm1, not_true_eq_false, bne_self_eq_false, unbyte_bytes]
      refine ⟨by kernel_rfl, by omega, fun h4 => ?_, fun h4 => ?_⟩
      focus
        have h4 : 0 < (ebO w).length := by have := of_decide_eq_true h4; omega
        obtain ⟨k1, hk1, hk1l⟩ := modI_lt n h4
        obtain ⟨k2, hk2, hk2l⟩ := modI_lt n (m := 255) (by omega)
        have cM1 := c_draw_Mod n (ebO w).length (by omega)
        have cM2 := c_draw_Mod n 255 (by omega)
        rw [hk1] at cM1
        rw [show ((255 : Nat) : Int) = 255 from rfl] at hk2
        rw [hk2] at cM2
        refine C1.im cM1 (by rfl) (by rfl) ?_
        simp only [tl, tl2, tl4, ↓un_u, isCallR, entX, argFr, ret, retI, retB, intT, unT, endR, ressR, resR, tupT, bslR, boxR, lenAll, ↓reduceIte, Nat.reduceEqDiff, Nat.reduceAdd, Nat.reduceMul, Nat.reduceLT, Nat.reduceLeDiff, reduceCtorEq, Int.reduceLE, Int.reduceLT, ne_eq, Int.reduceEq, not_false_eq_true, decide_true, decide_false, Int.reduceToNat, tl3, Int.reduceBNe, Int.reduceBEq, rmK, rm1, not_true_eq_false, Int.toNat_natCast]
        refine ⟨⟨by omega, by omega⟩, hk1l, ?_⟩
        refine C1.im cM2 (by rfl) (by rfl) ?_
        have hwk2 : IntKind.i64.wrap (1 + (k2 : Int)) = 1 + (k2 : Int) := IntWalk.i64_in _ (by omega)
        simp only [tl, tl2, tl4, ↓un_u, isCallR, entX, argFr, ret, retI, retB, intT, unT, endR, ressR, resR, tupT, bslR, boxR, lenAll, ↓reduceIte, Nat.reduceEqDiff, Nat.reduceAdd, Nat.reduceMul, Nat.reduceLT, Nat.reduceLeDiff, reduceCtorEq, Int.reduceLE, Int.reduceLT, ne_eq, Int.reduceEq, not_false_eq_true, decide_true, decide_false, Int.reduceToNat, tl3, Int.reduceBNe, Int.reduceBEq, rmK, rm1, not_true_eq_false, hwk2, getD_bytes hk1l]
        refine ⟨⟨by omega, by omega⟩, ⟨hk1l, ?_⟩, by kernel_rfl, ?_⟩
        · rw [Int.toNat_natCast, getD_bytes hk1l]; trivial
        obtain ⟨c, hc⟩ := xor_byte ((ebO w).getD k1 0).toNat (IntKind.u8.wrap (1 + (k2 : Int)))
        rw [hc, Int.toNat_natCast, getD_bytes hk1l, show ∀ (m : Int) (v : UInt8), repl (.v (.int .u8 m)) 0 (byteT v) = byteT v from fun _ _ => rfl, ← List.map_set]
        have hwl : ((ebO w).set k1 c).length = (ebO w).length := List.length_set
        generalize (ebO w).set k1 c = wb at *
        refine W_le [(1, vL d), (4, vI n), (7, .ptr 4100 1 0 0), (13, .ptr 32768 1 0 0), (16, .ptr 61448 1 0 0), (19, vL (ebO w)), (21, vL wb), (109, .asl 53256 2), (110, vI 2), (111, vI i)] [(4100, .arr 2 [vF a p] false), (32768, .arr 2 [vF b []] false), (53256, .arr 7 (E.map outT) false), (61448, .arr 7 [outT w] false)] ?_ ?_
        · rw [← hwl]
          refine .of [(4100, some 4100), (32768, some 32768), (53256, some 53256), (61448, some 61448)] [81920] rfl (by first | rfl | (rw [hst]; rfl)) ?_ ?_
          all_goals (try exact clA)
      rotate_left
      focus
        obtain ⟨wb, hwb⟩ : ∃ wb, wb = ebO w := ⟨_, rfl⟩
        refine W_le [(1, vL d), (4, vI n), (7, .ptr 4100 1 0 0), (13, .ptr 32768 1 0 0), (16, .ptr 61448 1 0 0), (19, vL (ebO w)), (21, vL wb), (109, .asl 53256 2), (110, vI 2), (111, vI i)] [(4100, .arr 2 [vF a p] false), (32768, .arr 2 [vF b []] false), (53256, .arr 7 (E.map outT) false), (61448, .arr 7 [outT w] false)] ?_ ?_
        · subst hwb
          refine .of [(4100, some 4100), (32768, some 32768), (53256, some 53256), (61448, some 61448)] [81920] rfl (by first | rfl | (rw [hst]; rfl)) ?_ ?_
          all_goals (try exact clA)
        have hwl : wb.length = (ebO w).length := by rw [hwb]
        clear hwb
      all_goals clear h4
      all_goals
        obtain ⟨k3, hk3, hk3l⟩ := modI_lt n (m := (ebO w).length + 1) (by omega)
        have cM3 := c_draw_Mod n ((ebO w).length + 1 : Nat) (by omega)
        rw [hk3] at cM3
        have hwe := i64_succ (i := (ebO w).length) (by omega)
        generalize ebO w = eb at *
        simp only [tl, tl2, tl4, ↓un_u, isCallR, entX, argFr, ret, retI, retB, intT, unT, endR, ressR, resR, tupT, bslR, boxR, lenAll, ↓reduceIte, Nat.reduceEqDiff, Nat.reduceAdd, Nat.reduceMul, Nat.reduceLT, Nat.reduceLeDiff, reduceCtorEq, Int.reduceLE, Int.reduceLT, ne_eq, Int.reduceEq, not_false_eq_true, decide_true, decide_false, Int.reduceToNat, tl3, Int.reduceBNe, Int.reduceBEq, rmK, rm1, not_true_eq_false, hwe]
        refine C1.im cM3 (by rfl) (by rfl) ?_
        simp only [tl, tl2, tl4, ↓un_u, isCallR, entX, argFr, ret, retI, retB, intT, unT, endR, ressR, resR, tupT, bslR, boxR, lenAll, ↓reduceIte, Nat.reduceEqDiff, Nat.reduceAdd, Nat.reduceMul, Nat.reduceLT, Nat.reduceLeDiff, reduceCtorEq, Int.reduceLE, Int.reduceLT, ne_eq, Int.reduceEq, not_false_eq_true, decide_true, decide_false, Int.reduceToNat, tl3, Int.reduceBNe, Int.reduceBEq, rmK, rm1, not_true_eq_false, cut_map, cut_to]
        refine ⟨by omega, ?_⟩
        have hB : ∀ q ∈ [d, eb, wb, eb.take k3], q.length ≤ 3000 := by
          intro q hq
          simp only [List.mem_cons, List.not_mem_nil, or_false] at hq
          rcases hq with h | h | h | h <;> subst h <;> (try rw [List.length_take]) <;> omega
        have hBl : [d, eb, wb, eb.take k3].length = 4 := rfl
        refine W_loopF mixm (α := Nat) [173] (fun j => j ≤ 4) (fun j => [(173, vI j)]) (fun j => [(4100, .arr 2 [vF a p] false), (32768, .arr 2 [vF b []] false), (53256, .arr 7 (E.map outT) false), (61448, .arr 7 [outT w] false), (94248, .arr 1 ([d, eb, wb, eb.take k3].map vL) false)]) (fun j => 4 - j) 0 (by omega) ?_ fun j hj => ?_
        · refine .of [(4100, some 4100), (32768, some 32768), (53256, some 53256), (61448, some 61448), (94248, some 94248)] [] rfl (by first | rfl | (rw [hst]; rfl)) ?_ ?_
          all_goals (try simp only [ltSto, ltO2, ltO1, ltAs, ltA, ltC, ltC0, ltC0s, ltCs, ltT, ltFr, ltS, wrOk, wrO, TL.get, hasFr, ↓reduceIte, Nat.reduceEqDiff, reduceCtorEq, Option.getD_some, Option.isSome_some, List.length_map, List.length_append, List.length_cons, List.length_nil, List.append_nil, List.mem_singleton, List.mem_cons, List.not_mem_nil, and_true, true_and, and_self, imp_self, forall_const, false_implies, implies_true, true_implies, or_false, Bool.false_eq_true, Bool.true_eq_false, ImXs_nil, true_or, or_true, false_or, false_and, and_false, rmK, rm1, List.map_append, List.map_cons, List.map_nil, List.cons_append, List.nil_append, List.map_nil])
          all_goals (try (repeat' (first | exact ltXs_nil | (apply ltXs_map; intro _; exact ⟨rfl, rfl⟩) | (apply imXs_map; intro _; exact ⟨rfl, rfl⟩) | with_reducible apply imXs_append | with_reducible refine imXs_cons ⟨rfl, rfl⟩ ?_ | exact imXs_nil | with_reducible apply ltXs_append | with_reducible refine ltXs_cons ⟨rfl, rfl, ?_⟩ ?_ | with_reducible apply And.intro | exact ltCs_im rfl | exact ltCs_im (by assumption) | (refine ⟨⟨?_, rfl, ?_, rfl, ?_⟩, trivial⟩ <;> first | (simp; done) | (apply imXs_map; intro _; exact ⟨rfl, rfl⟩)) | trivial | rfl | (rw [i64_succ (by omega)]) | omega)))
        generalize [d, eb, wb, eb.take k3] = B at *
        simp only [tl, tl2, tl4, ↓un_u, isCallR, entX, argFr, ret, retI, retB, intT, unT, endR, ressR, resR, tupT, bslR, boxR, lenAll, ↓reduceIte, Nat.reduceEqDiff, Nat.reduceAdd, Nat.reduceMul, Nat.reduceLT, Nat.reduceLeDiff, reduceCtorEq, Int.reduceLE, Int.reduceLT, ne_eq, Int.reduceEq, not_false_eq_true, decide_true, decide_false, Int.reduceToNat, tl3, Int.reduceBNe, Int.reduceBEq, rmK, rm1, not_true_eq_false, decide_eq_true_eq, decide_eq_false_iff_not]
        refine ⟨fun h5 => ?_, fun h5 => ?_⟩
        · have hj2 : j < B.length := by omega
          have hwj := i64_succ (i := j) (by omega)
          simp only [tl, tl2, tl4, ↓un_u, isCallR, entX, argFr, ret, retI, retB, intT, unT, endR, ressR, resR, tupT, bslR, boxR, lenAll, ↓reduceIte, Nat.reduceEqDiff, Nat.reduceAdd, Nat.reduceMul, Nat.reduceLT, Nat.reduceLeDiff, reduceCtorEq, Int.reduceLE, Int.reduceLT, ne_eq, Int.reduceEq, not_false_eq_true, decide_true, decide_false, Int.reduceToNat, tl3, Int.reduceBNe, Int.reduceBEq, rmK, rm1, not_true_eq_false, Int.toNat_natCast, getD_mapT hj2]
          have hq := hB B[j] (List.getElem_mem hj2)
          generalize B[j] = q at *
          have f1 := decT_eq' q (by omega)
          have f2 := decR_eq' q (by omega)
          obtain ⟨o, er, ho, ho2⟩ := decTT_gen q
          rw [ho] at f1 f2
          have f3 := c_ref35_Same o (by omega)
          refine ⟨⟨hBl, by omega, by omega⟩, ⟨hBl, hj2⟩, ?_⟩
          refine C1.im f1 (by rfl) (by rfl) ?_
          simp only [tl, tl2, tl4, ↓un_u, isCallR, entX, argFr, ret, retI, retB, intT, unT, endR, ressR, resR, tupT, bslR, boxR, lenAll, ↓reduceIte, Nat.reduceEqDiff, Nat.reduceAdd, Nat.reduceMul, Nat.reduceLT, Nat.reduceLeDiff, reduceCtorEq, Int.reduceLE, Int.reduceLT, ne_eq, Int.reduceEq, not_false_eq_true, decide_true, decide_false, Int.reduceToNat, tl3, Int.reduceBNe, Int.reduceBEq, rmK, rm1, not_true_eq_false]
          refine C1.im f2 (by rfl) (by rfl) ?_
          simp only [tl, tl2, tl4, ↓un_u, isCallR, entX, argFr, ret, retI, retB, intT, unT, endR, ressR, resR, tupT, bslR, boxR, lenAll, ↓reduceIte, Nat.reduceEqDiff, Nat.reduceAdd, Nat.reduceMul, Nat.reduceLT, Nat.reduceLeDiff, reduceCtorEq, Int.reduceLE, Int.reduceLT, ne_eq, Int.reduceEq, not_false_eq_true, decide_true, decide_false, Int.reduceToNat, tl3, Int.reduceBNe, Int.reduceBEq, rmK, rm1, not_true_eq_false]
          refine C1.im f3 (by rfl) (by rfl) ?_
          simp only [tl, tl2, tl4, ↓un_u, isCallR, entX, argFr, ret, retI, retB, intT, unT, endR, ressR, resR, tupT, bslR, boxR, lenAll, ↓reduceIte, Nat.reduceEqDiff, Nat.reduceAdd, Nat.reduceMul, Nat.reduceLT, Nat.reduceLeDiff, reduceCtorEq, Int.reduceLE, Int.reduceLT, ne_eq, Int.reduceEq, not_false_eq_true, decide_true, decide_false, Int.reduceToNat, tl3, Int.reduceBNe, Int.reduceBEq, rmK, rm1, not_true_eq_false, bne_self_eq_false, hwj]
          refine ⟨j + 1, by omega, by omega, ?_⟩
          refine .of [(4100, some 4100), (32768, some 32768), (53256, some 53256), (61448, some 61448), (94248, some 94248)] [] rfl (by first | rfl | (rw [hst]; rfl)) ?_ ?_
          all_goals (try exact clA)
        · have f4 := c_ref23_Append b [] wb (by omega) (by simp) (by omega)
          rw [appS_eq] at f4
          obtain ⟨b2, hb2, hb2l⟩ : ∃ b2, (if errOf b wb ([] : List UInt8).length = 0 then ([] : List UInt8) ++ frame wb else []) = b2 ∧ b2.length ≤ 3008 := by
            refine ⟨_, rfl, ?_⟩
            split
            · rw [List.nil_append, frame_length]; omega
            · simp
          rw [hb2] at f4
          generalize errOf b wb ([] : List UInt8).length = e4 at *
          have f5 := c_ref23_Sync b b2 (by omega) (by omega)
          rw [crash_all] at f5
          refine C1.im f4 (by rfl) (by rfl) ?_
          simp only [tl, tl2, tl4, ↓un_u, isCallR, entX, argFr, ret, retI, retB, intT, unT, endR, ressR, resR, tupT, bslR, boxR, lenAll, ↓reduceIte, Nat.reduceEqDiff, Nat.reduceAdd, Nat.reduceMul, Nat.reduceLT, Nat.reduceLeDiff, reduceCtorEq, Int.reduceLE, Int.reduceLT, ne_eq, Int.reduceEq, not_false_eq_true, decide_true, decide_false, Int.reduceToNat, tl3, Int.reduceBNe, Int.reduceBEq, rmK, rm1, not_true_eq_false]
          refine C1.im f5 (by rfl) (by rfl) ?_
          simp only [tl, tl2, tl4, ↓un_u, isCallR, entX, argFr, ret, retI, retB, intT, unT, endR, ressR, resR, tupT, bslR, boxR, lenAll, ↓reduceIte, Nat.reduceEqDiff, Nat.reduceAdd, Nat.reduceMul, Nat.reduceLT, Nat.reduceLeDiff, reduceCtorEq, Int.reduceLE, Int.reduceLT, ne_eq, Int.reduceEq, not_false_eq_true, decide_true, decide_false, Int.reduceToNat, tl3, Int.reduceBNe, Int.reduceBEq, rmK, rm1, not_true_eq_false]
          refine ⟨by kernel_rfl, ?_⟩
          have hD : ∀ q ∈ [(a, p), (b, []), (b, b2), (b ++ b2, [])], q.1.length ≤ 20000 ∧ q.2.length ≤ 20000 := by
            intro q hq
            simp only [List.mem_cons, List.not_mem_nil, or_false] at hq
            rcases hq with h | h | h | h <;> subst h <;> simp <;> omega
          have hDl : [(a, p), (b, []), (b, b2), (b ++ b2, [])].length = 4 := rfl
          refine W_loopF mixm (α := Nat) [210] (fun j => j ≤ 4) (fun j => [(210, vI j)]) (fun j => [(4100, .arr 2 [vF a p] false), (32768, .arr 2 [vF b []] false), (53256, .arr 7 (E.map outT) false), (61448, .arr 7 [outT w] false), (131092, .arr 2 ([(a, p), (b, []), (b, b2), (b ++ b2, [])].map fun q => vF q.1 q.2) false)]) (fun j => 4 - j) 0 (by omega) ?_ fun j hj => ?_
          · refine .of [(4100, some 4100), (32768, some 32768), (53256, some 53256), (61448, some 61448), (131092, some 131092)] [] rfl (by first | rfl | (rw [hst]; rfl)) ?_ ?_
            all_goals (try simp only [ltSto, ltO2, ltO1, ltAs, ltA, ltC, ltC0, ltC0s, ltCs, ltT, ltFr, ltS, wrOk, wrO, TL.get, hasFr, ↓reduceIte, Nat.reduceEqDiff, reduceCtorEq, Option.getD_some, Option.isSome_some, List.length_map, List.length_append, List.length_cons, List.length_nil, List.append_nil, List.mem_singleton, List.mem_cons, List.not_mem_nil, and_true, true_and, and_self, imp_self, forall_const, false_implies, implies_true, true_implies, or_false, Bool.false_eq_true, Bool.true_eq_false, ImXs_nil, true_or, or_true, false_or, false_and, and_false, rmK, rm1, List.map_append, List.map_cons, List.map_nil, List.cons_append, List.nil_append, List.map_nil])
            all_goals (try (repeat' (first | exact ltXs_nil | (apply ltXs_map; intro _; exact ⟨rfl, rfl⟩) | (apply imXs_map; intro _; exact ⟨rfl, rfl⟩) | with_reducible apply imXs_append | with_reducible refine imXs_cons ⟨rfl, rfl⟩ ?_ | exact imXs_nil | with_reducible apply ltXs_append | with_reducible refine ltXs_cons ⟨rfl, rfl, ?_⟩ ?_ | with_reducible apply And.intro | exact ltCs_im rfl | exact ltCs_im (by assumption) | (refine ⟨⟨?_, rfl, ?_, rfl, ?_⟩, trivial⟩ <;> first | (simp; done) | (apply imXs_map; intro _; exact ⟨rfl, rfl⟩)) | trivial | rfl | (rw [i64_succ (by omega)]) | omega)))
            done
          generalize [(a, p), (b, []), (b, b2), (b ++ b2, [])] = D at *
          simp only [tl, tl2, tl4, ↓un_u, isCallR, entX, argFr, ret, retI, retB, intT, unT, endR, ressR, resR, tupT, bslR, boxR, lenAll, ↓reduceIte, Nat.reduceEqDiff, Nat.reduceAdd, Nat.reduceMul, Nat.reduceLT, Nat.reduceLeDiff, reduceCtorEq, Int.reduceLE, Int.reduceLT, ne_eq, Int.reduceEq, not_false_eq_true, decide_true, decide_false, Int.reduceToNat, tl3, Int.reduceBNe, Int.reduceBEq, rmK, rm1, not_true_eq_false, decide_eq_true_eq, decide_eq_false_iff_not]
          refine ⟨fun h5 => ?_, fun h5 => ?_⟩
          · have hj2 : j < D.length := by omega
            have hwj := i64_succ (i := j) (by omega)
            simp only [tl, tl2, tl4, ↓un_u, isCallR, entX, argFr, ret, retI, retB, intT, unT, endR, ressR, resR, tupT, bslR, boxR, lenAll, ↓reduceIte, Nat.reduceEqDiff, Nat.reduceAdd, Nat.reduceMul, Nat.reduceLT, Nat.reduceLeDiff, reduceCtorEq, Int.reduceLE, Int.reduceLT, ne_eq, Int.reduceEq, not_false_eq_true, decide_true, decide_false, Int.reduceToNat, tl3, Int.reduceBNe, Int.reduceBEq, rmK, rm1, not_true_eq_false, Int.toNat_natCast, getD_mapT hj2]
            have hq := hD D[j] (List.getElem_mem hj2)
            generalize D[j] = q at *
            obtain ⟨qa, qp⟩ := q
            dsimp only at hq ⊢
            have u1 := c_queue_Put qa qp w (by omega) (by omega) (by omega)
            have u2 := c_ref35_Put qa qp w (by omega) (by omega) (by omega)
            have u3 := c_queue_Load qa qp (by omega) (by omega)
            have u4 := c_ref35_Load qa qp (by omega) (by omega)
            obtain ⟨pa, pp, pe, hps⟩ := putS_gen qa qp w
            obtain ⟨la, ll, le, hls, hls2, hls3⟩ := loadT_gen qa
            rw [hps] at u1 u2
            rw [hls] at u3 u4
            have u5 := c_ref23_Same pa pp pa pp
            have u6 := c_ref23_Same la [] la []
            rw [show (pa == pa && pp == pp) = true by simp] at u5
            rw [show (la == la && ([] : List UInt8) == []) = true by simp] at u6
            have u7 := c_ref35_Alike ll (fun y hy => by have := hls2 y hy; omega) (by omega)
            refine ⟨⟨hDl, by omega, by omega⟩, ⟨hDl, hj2⟩, ?_⟩
            refine C1.im u1 (by rfl) (by rfl) ?_
            simp only [tl, tl2, tl4, ↓un_u, isCallR, entX, argFr, ret, retI, retB, intT, unT, endR, ressR, resR, tupT, bslR, boxR, lenAll, ↓reduceIte, Nat.reduceEqDiff, Nat.reduceAdd, Nat.reduceMul, Nat.reduceLT, Nat.reduceLeDiff, reduceCtorEq, Int.reduceLE, Int.reduceLT, ne_eq, Int.reduceEq, not_false_eq_true, decide_true, decide_false, Int.reduceToNat, tl3, Int.reduceBNe, Int.reduceBEq, rmK, rm1, not_true_eq_false]
            refine C1.im u2 (by rfl) (by rfl) ?_
            simp only [tl, tl2, tl4, ↓un_u, isCallR, entX, argFr, ret, retI, retB, intT, unT, endR, ressR, resR, tupT, bslR, boxR, lenAll, ↓reduceIte, Nat.reduceEqDiff, Nat.reduceAdd, Nat.reduceMul, Nat.reduceLT, Nat.reduceLeDiff, reduceCtorEq, Int.reduceLE, Int.reduceLT, ne_eq, Int.reduceEq, not_false_eq_true, decide_true, decide_false, Int.reduceToNat, tl3, Int.reduceBNe, Int.reduceBEq, rmK, rm1, not_true_eq_false]
            refine C1.im u3 (by rfl) (by rfl) ?_
            simp only [tl, tl2, tl4, ↓un_u, isCallR, entX, argFr, ret, retI, retB, intT, unT, endR, ressR, resR, tupT, bslR, boxR, lenAll, ↓reduceIte, Nat.reduceEqDiff, Nat.reduceAdd, Nat.reduceMul, Nat.reduceLT, Nat.reduceLeDiff, reduceCtorEq, Int.reduceLE, Int.reduceLT, ne_eq, Int.reduceEq, not_false_eq_true, decide_true, decide_false, Int.reduceToNat, tl3, Int.reduceBNe, Int.reduceBEq, rmK, rm1, not_true_eq_false]
            refine C1.im u4 (by rfl) (by rfl) ?_
            simp only [tl, tl2, tl4, ↓un_u, isCallR, entX, argFr, ret, retI, retB, intT, unT, endR, ressR, resR, tupT, bslR, boxR, lenAll, ↓reduceIte, Nat.reduceEqDiff, Nat.reduceAdd, Nat.reduceMul, Nat.reduceLT, Nat.reduceLeDiff, reduceCtorEq, Int.reduceLE, Int.reduceLT, ne_eq, Int.reduceEq, not_false_eq_true, decide_true, decide_false, Int.reduceToNat, tl3, Int.reduceBNe, Int.reduceBEq, rmK, rm1, not_true_eq_false]
            refine C1.im u5 (by rfl) (by rfl) ?_
            simp only [tl, tl2, tl4, ↓un_u, isCallR, entX, argFr, ret, retI, retB, intT, unT, endR, ressR, resR, tupT, bslR, boxR, lenAll, ↓reduceIte, Nat.reduceEqDiff, Nat.reduceAdd, Nat.reduceMul, Nat.reduceLT, Nat.reduceLeDiff, reduceCtorEq, Int.reduceLE, Int.reduceLT, ne_eq, Int.reduceEq, not_false_eq_true, decide_true, decide_false, Int.reduceToNat, tl3, Int.reduceBNe, Int.reduceBEq, rmK, rm1, not_true_eq_false, bne_self_eq_false]
            refine C2.one (by trivial) (C1.im u6 (by rfl) (by rfl) ?_)
            simp only [tl, tl2, tl4, ↓un_u, isCallR, entX, argFr, ret, retI, retB, intT, unT, endR, ressR, resR, tupT, bslR, boxR, lenAll, ↓reduceIte, Nat.reduceEqDiff, Nat.reduceAdd, Nat.reduceMul, Nat.reduceLT, Nat.reduceLeDiff, reduceCtorEq, Int.reduceLE, Int.reduceLT, ne_eq, Int.reduceEq, not_false_eq_true, decide_true, decide_false, Int.reduceToNat, tl3, Int.reduceBNe, Int.reduceBEq, rmK, rm1, not_true_eq_false, bne_self_eq_false]
            refine C2.one (by trivial) (C1.im u7 (by rfl) (by rfl) ?_)
            simp only [tl, tl2, tl4, ↓un_u, isCallR, entX, argFr, ret, retI, retB, intT, unT, endR, ressR, resR, tupT, bslR, boxR, lenAll, ↓reduceIte, Nat.reduceEqDiff, Nat.reduceAdd, Nat.reduceMul, Nat.reduceLT, Nat.reduceLeDiff, reduceCtorEq, Int.reduceLE, Int.reduceLT, ne_eq, Int.reduceEq, not_false_eq_true, decide_true, decide_false, Int.reduceToNat, tl3, Int.reduceBNe, Int.reduceBEq, rmK, rm1, not_true_eq_false, bne_self_eq_false, hwj]
            refine ⟨j + 1, by omega, by omega, ?_⟩
            refine .of [(4100, some 4100), (32768, some 32768), (53256, some 53256), (61448, some 61448), (131092, some 131092)] [] rfl (by first | rfl | (rw [hst]; rfl)) ?_ ?_
            all_goals (try exact clA)
          · simp only [tl, tl2, tl4, ↓un_u, isCallR, entX, argFr, ret, retI, retB, intT, unT, endR, ressR, resR, tupT, bslR, boxR, lenAll, ↓reduceIte, Nat.reduceEqDiff, Nat.reduceAdd, Nat.reduceMul, Nat.reduceLT, Nat.reduceLeDiff, reduceCtorEq, Int.reduceLE, Int.reduceLT, ne_eq, Int.reduceEq, not_false_eq_true, decide_true, decide_false, Int.reduceToNat, tl3, Int.reduceBNe, Int.reduceBEq, rmK, rm1, not_true_eq_false, hwi]
            refine ⟨i + 1, by omega, by omega, ?_⟩
            refine .of [(4100, some 4100), (32768, some 32768), (53256, some 53256)] [] rfl (by first | rfl | (rw [hst]; rfl)) ?_ ?_
            all_goals (try exact clA)
    · refine C1.im c_law35_awake (by rfl) (by rfl) ?_
      simp only [tl, tl2, tl4, ↓un_u, isCallR, entX, argFr, ret, retI, retB, intT, unT, endR, ressR, resR, tupT, bslR, boxR, lenAll, ↓reduceIte, Nat.reduceEqDiff, Nat.reduceAdd, Nat.reduceMul, Nat.reduceLT, Nat.reduceLeDiff, reduceCtorEq, Int.reduceLE, Int.reduceLT, ne_eq, Int.reduceEq, not_false_eq_true, decide_true, decide_false, Int.reduceToNat, tl3, Int.reduceBNe, Int.reduceBEq, rmK, rm1, not_true_eq_false]
      refine .of [] [] rfl (by first | rfl | (rw [hst]; rfl)) ?_ ?_
      all_goals (try exact clA)

end Go.Proofs

