import Derived.Test.YtnhhmfplebpipaaH
set_option linter.unusedSimpArgs false
set_option linter.unusedVariables false
namespace Go.Proofs
open Go Go.TL
/-! ltSto, ltO2, ltO1, ltAs, ltA, ltC, ltCs, ltT, ltFr, ltS, wrOk, wrO, TL.get, hasFr, ↓reduceIte, Nat.reduceEqDiff, reduceCtorEq, Option.getD_some, Option.isSome_some, List.length_map, List.length_append, List.length_cons, List.length_nil, List.append_nil, List.mem_singleton, List.mem_cons, List.not_mem_nil, and_true, true_and, and_self, imp_self, forall_const, false_implies, implies_true, true_implies, or_false, Bool.false_eq_true, Bool.true_eq_false, ImXs_nil, true_or, or_true, false_or, false_and, and_false# search -/
structure S34 where
  o : List Int
  col : List Int
  row : Int
  all : Int
def cellsS (c : Nat) (b : Int) (t w : List Int) (s : S34) : List T := vI c :: vI b :: vIs t :: .asl 1 s.o.length :: vIs w :: (s.col ++ [s.row, s.all]).map vI
abbrev oS (c : Nat) (b : Int) (t w : List Int) (s : S34) : Ob := .arr 19 [.agg (cellsS c b t w s)] false
abbrev oO (s : S34) : Ob := .arr 1 (s.o.map vI) false
def tryL (f : S34 → Bool × S34) (mk : Int → S34 → S34) : List Int → S34 → Bool × S34
  | [], s => (false, s)
  | n :: r, s => if (f (mk n s)).1 = true then (true, (f (mk n s)).2) else tryL f mk r (f (mk n s)).2
def badS (c : Nat) (b : Int) (w : List Int) (i : Nat) (s : S34) : Bool := decide (0 < i) && (decide (i % c = 0) && !nearB (at0 w (i / c - 1)) s.row b)
def endS (c r : Nat) (b : Int) (w : List Int) (s : S34) : Bool := (List.range c).all (fun k => nearB (at0 w (r + k)) (at0 s.col k) b) && nearB (at0 w (r + c)) s.all b
def mkS (c i : Nat) (col : List Int) (row all : Int) (n : Int) (s : S34) : S34 := ⟨s.o.set i n, col.set (i % c) (at0 col (i % c) + n), row + n, all + n⟩
def rowS (c i : Nat) (s : S34) : Int := if i % c = 0 then 0 else s.row
def nxt (c r : Nat) (b : Int) (t w : List Int) : Nat → Nat → S34 → Bool × S34
  | 0, i, s => if badS c b w i s = true then (false, s) else (endS c r b w s, s)
  | k + 1, i, s => if badS c b w i s = true then (false, s) else tryL (nxt c r b t w k (i + 1)) (mkS c i s.col (rowS c i s) s.all) (choi (at0 t i) b) s
def okS (n : Nat) (m : Int) (s : S34) : Prop := s.o.length = n ∧ s.col.length = 12 ∧ (∀ x ∈ s.col, -m ≤ x ∧ x ≤ m) ∧ (-m ≤ s.row ∧ s.row ≤ m) ∧ (-m ≤ s.all ∧ s.all ≤ m)
theorem w_i64 {a : Int} (h : -1000000000000000 ≤ a ∧ a ≤ 1000000000000000) : IntKind.i64.wrap a = a := IntWalk.i64_in _ (by omega)
section
variable {c : Nat} {b : Int} {t w : List Int} {s : S34}
theorem cell0 : (cellsS c b t w s).getD 0 .junk = vI c := _root_.id rfl
theorem cell1 : (cellsS c b t w s).getD 1 .junk = vI b := _root_.id rfl
theorem cell2 : (cellsS c b t w s).getD 2 .junk = vIs t := _root_.id rfl
theorem cell3 : (cellsS c b t w s).getD 3 .junk = .asl 1 s.o.length := _root_.id rfl
theorem cell4 : (cellsS c b t w s).getD 4 .junk = vIs w := _root_.id rfl
theorem cell17 (h : s.col.length = 12) : (cellsS c b t w s).getD 17 .junk = vI s.row := by simp [List.getD, cellsS, h]
theorem cell18 (h : s.col.length = 12) : (cellsS c b t w s).getD 18 .junk = vI s.all := by simp [List.getD, cellsS, h]
theorem cell5 {i : Nat} (h : s.col.length = 12) (hi : i < 12) : (cellsS c b t w s).getD (5 + i) .junk = vI (at0 s.col i) := by
  have : 5 + i = i + 5 := by omega
  rw [this]
  simp only [cellsS, List.getD_cons_succ]
  rw [getD_ints (by simp; omega), List.getElem_append_left (by omega), at0, getD_get (by omega)]
theorem cell_len (h : s.col.length = 12) : (cellsS c b t w s).length = 19 := by simp [cellsS, h]
end
theorem ltCs_ints {st : Sto} {ρ : Ren} {B : List Nat} : ∀ l : List Int, ltCs st ρ B (l.map vI) (l.map vI)
  | [] => trivial
  | _ :: l => ⟨rfl, ltCs_ints l⟩
theorem lt_cells {st : Sto} {ρ : Ren} {B : List Nat} {c : Nat} {b : Int} {t w : List Int} {s : S34} (h : TL.get ρ 1 = some (some 1)) (hcol : s.col.length = 12) : ltXs st ρ B 19 [.agg (cellsS c b t w s)] [.agg (cellsS c b t w s)] := by
  refine ltXs_cons ⟨by simp [T.cells, cellsS, hcol], by simp [T.cells, cellsS, hcol], ⟨rfl, rfl, rfl, ⟨h, rfl⟩, rfl, ltCs_ints _⟩⟩ ltXs_nil
theorem lives_ints {st : Sto} : ∀ l : List Int, lives st (l.map vI)
  | [] => trivial
  | _ :: l => ⟨by simp [live, Value.oneCell'], lives_ints l⟩
theorem cellC {c : Nat} {b : Int} {t w : List Int} {s : S34} (h : s.col.length = 12) : ((cellsS c b t w s).drop 5).take 12 = s.col.map vI := by
  simp [cellsS, List.take_append, h]
theorem set17 {c : Nat} {b : Int} {t w : List Int} {s : S34} {x : Int} (h : s.col.length = 12) : (cellsS c b t w s).set 17 (vI x) = cellsS c b t w ⟨s.o, s.col, x, s.all⟩ := by
  simp [cellsS, List.set_append, h]
theorem set18 {c : Nat} {b : Int} {t w : List Int} {s : S34} {x : Int} (h : s.col.length = 12) : (cellsS c b t w s).set 18 (vI x) = cellsS c b t w ⟨s.o, s.col, s.row, x⟩ := by
  simp [cellsS, List.set_append, h]
theorem set5 {c : Nat} {b : Int} {t w : List Int} {s : S34} {i : Nat} {x : Int} (h : s.col.length = 12) (hi : i < 12) : (cellsS c b t w s).set (5 + i) (vI x) = cellsS c b t w ⟨s.o, s.col.set i x, s.row, s.all⟩ := by
  have : 5 + i = i + 1 + 1 + 1 + 1 + 1 := by omega
  rw [this]
  simp only [cellsS, List.set_cons_succ, map_set]
  rw [List.set_append_left _ _ (by omega)]
theorem rep17 {c : Nat} {b : Int} {t w : List Int} {s : S34} {x : Int} (h : s.col.length = 12) : (cellsS c b t w s).take 17 ++ [T.v (.int .i64 x)] ++ (cellsS c b t w s).drop 18 = cellsS c b t w ⟨s.o, s.col, x, s.all⟩ := by
  have e := set17 (c := c) (b := b) (t := t) (w := w) (s := s) (x := x) h
  rw [List.set_eq_take_append_cons_drop, if_pos (by rw [cell_len h]; omega)] at e
  exact (List.append_assoc _ _ _).trans e
theorem rep18 {c : Nat} {b : Int} {t w : List Int} {s : S34} {x : Int} (h : s.col.length = 12) : (cellsS c b t w s).take 18 ++ [T.v (.int .i64 x)] ++ (cellsS c b t w s).drop 19 = cellsS c b t w ⟨s.o, s.col, s.row, x⟩ := by
  have e := set18 (c := c) (b := b) (t := t) (w := w) (s := s) (x := x) h
  rw [List.set_eq_take_append_cons_drop, if_pos (by rw [cell_len h]; omega)] at e
  exact (List.append_assoc _ _ _).trans e
theorem repI {c : Nat} {b : Int} {t w : List Int} {s : S34} {x : Int} {i : Nat} (h : s.col.length = 12) (hi : i < 12) : (cellsS c b t w s).take (5 + i) ++ [T.v (.int .i64 x)] ++ (cellsS c b t w s).drop (5 + i + 1) = cellsS c b t w ⟨s.o, s.col.set i x, s.row, s.all⟩ := by
  have e := set5 (c := c) (b := b) (t := t) (w := w) (s := s) (x := x) h hi
  rw [List.set_eq_take_append_cons_drop, if_pos (by rw [cell_len h]; omega)] at e
  exact (List.append_assoc _ _ _).trans e
theorem repC {c : Nat} {b : Int} {t w : List Int} {s : S34} {l : List Int} (h : s.col.length = 12) (hl : l.length = 12) : (cellsS c b t w s).take 5 ++ l.map vI ++ (cellsS c b t w s).drop (5 + l.length) = cellsS c b t w ⟨s.o, l, s.row, s.all⟩ := by
  rw [hl]
  simp [cellsS, h, List.drop_append]
theorem list12 {l : List Int} (h : l.length = 12) : ∃ a0 a1 a2 a3 a4 a5 a6 a7 a8 a9 b0 b1, l = [a0, a1, a2, a3, a4, a5, a6, a7, a8, a9, b0, b1] := by
  match l, h with
  | [a0, a1, a2, a3, a4, a5, a6, a7, a8, a9, b0, b1], _ => exact ⟨a0, a1, a2, a3, a4, a5, a6, a7, a8, a9, b0, b1, rfl⟩
theorem nxt_bad {c r : Nat} {b : Int} {t w : List Int} {k i : Nat} {s : S34} (h : badS c b w i s = true) : nxt c r b t w k i s = (false, s) := by
  cases k <;> simp [nxt, h]
theorem bad_eq {c : Nat} {b : Int} {w : List Int} {i : Nat} {s : S34} : (decide ((i : Int) > 0) && ((i % c : Nat) : Int) == 0 && !nearB (at0 w (i / c - 1)) s.row b) = badS c b w i s := by
  unfold badS
  have h1 : decide ((i : Int) > 0) = decide (0 < i) := by simp
  have h2 : (((i % c : Nat) : Int) == 0) = decide (i % c = 0) := by
    rw [Bool.eq_iff_iff]; simp; omega
  rw [h1, h2, Bool.and_assoc]
/-- the two objects of a search, lent and given back -/
theorem _root_.Go.TL.C1.two {P : Program} {e : Env} {kss : List (Nat × List Nat)} {Q : Ex → St → Prop} {K : List KF} {rows : Option (List Nat)} {ks : List Nat} {nid : Nat} {ops : List ROp} {F : XF} {acc : Acc} {st : Sto} {fid : FuncId} {xs : List T} {r : T} {d : Option Nat} {c : Nat} {b : Int} {t w : List Int} (i0 i1 : Nat) (s s' : S34)
    (hs : Spc P fid (.ptr 0 1 0 0 :: xs) [(0, oS c b t w s), (1, oO s)] r [(0, oS c b t w s'), (1, oO s')]) (h12 : s.col.length = 12) (h12' : s'.col.length = 12)
    (hx : imAL xs = true) (h2 : imTup r = true)
    (hg : TL.get st 0 = some (oS c b t w s)) (hg1 : TL.get st 1 = some (oO s))
    (h : R P e kss Q rows ks K nid ops (putX F d (.p r)) (stUp st [(0, oS c b t w s'), (1, oO s')]) (acc ++ [([] ++ [(0, oS c b t w s'), (1, oO s')].map (·.1), [(0, oS c b t w s'), (1, oO s')].map (·.1))])) : C1 P e kss Q rows ks K (.clo fid []) (.ptr 0 1 0 0 :: xs) d nid ops F st acc := by
  refine C1.of [(0, some 0), (1, some 1)] [(0, some 0), (1, some 1)] [] [(0, oS c b t w s'), (1, oO s')] hs ?_ (by simp [renOk, TL.get]) ?_ (by rfl) (by simp [TL.get]) ?_ (by simp [renOk, TL.get]) (by rfl) (ltT_im h2) (.inl (by rfl)) h
  · rw [List.append_nil]
    exact ⟨by simp [ltA, ltC, TL.get], ltAs_im hx⟩
  · refine ⟨?_, ?_, trivial⟩
    · simp only [TL.get, if_true, ltO2, hg, ltO1]
      exact ⟨trivial, by simp, lt_cells rfl h12, by simp⟩
    · show ltO1 st _ [] 1 _ false 1 (TL.get st 1)
      rw [hg1]
      exact ⟨rfl, by simp, ltXs_ints _, by simp⟩
  · refine ⟨?_, ?_, trivial⟩
    · simp only [TL.get, if_true, wrO, ltO1]
      exact ⟨⟨trivial, by simp, lt_cells rfl h12', by simp⟩, .inr ⟨trivial, rfl⟩⟩
    · exact ⟨⟨rfl, by simp, ltXs_ints _, by simp⟩, .inr ⟨rfl, rfl⟩⟩
theorem nxt_ok {c r : Nat} {b : Int} {t w : List Int} : ∀ (k i : Nat) (s : S34), s.col.length = 12 → (nxt c r b t w k i s).2.col.length = 12 ∧ (nxt c r b t w k i s).2.o.length = s.o.length := by
  intro k
  induction k with
  | zero =>
    intro i s h
    unfold nxt
    split <;> exact ⟨h, rfl⟩
  | succ k ih =>
    intro i s h
    unfold nxt
    split
    · exact ⟨h, rfl⟩
    · generalize choi (at0 t i) b = L
      have key : ∀ (L : List Int) (s' : S34), s'.col.length = 12 → s'.o.length = s.o.length → (tryL (nxt c r b t w k (i + 1)) (mkS c i s.col (rowS c i s) s.all) L s').2.col.length = 12 ∧ (tryL (nxt c r b t w k (i + 1)) (mkS c i s.col (rowS c i s) s.all) L s').2.o.length = s.o.length := by
        intro L
        induction L with
        | nil => exact fun s' h1 h2 => ⟨h1, h2⟩
        | cons n L ihL =>
          intro s' h1 h2
          have h3 := ih (i + 1) (mkS c i s.col (rowS c i s) s.all n s') (by simp [mkS, h])
          have h4 : (mkS c i s.col (rowS c i s) s.all n s').o.length = s.o.length := by simp [mkS, h2]
          unfold tryL
          split
          · exact ⟨h3.1, h3.2.trans h4⟩
          · exact ihL _ h3.1 (h3.2.trans h4)
      exact key L s h rfl
theorem c22_step (c r : Nat) (b : Int) (t w : List Int) (hc : 1 ≤ c ∧ c ≤ 12) (hrc : r * c ≤ 12) (ht : t.length = r * c) (hn : ∀ n ∈ t, 0 ≤ n ∧ n ≤ 1000000) (hb : 1 ≤ b ∧ b ≤ 20) (hw : w.length = r + c + 1) (hws : ∀ n ∈ w, sm n)
    (k i : Nat) (s : S34) (hi : i + k = r * c) (hs : okS (r * c) (i * 1000020) s)
    (ih : ∀ k' s', k = k' + 1 → okS (r * c) ((i + 1 : Nat) * 1000020) s' → Spc Try.prog 22 [.ptr 0 1 0 0, vI ((i + 1 : Nat) : Int)] [(0, oS c b t w s'), (1, oO s')] (vB (nxt c r b t w k' (i + 1) s').1) [(0, oS c b t w (nxt c r b t w k' (i + 1) s').2), (1, oO (nxt c r b t w k' (i + 1) s').2)]) :
    Spc Try.prog 22 [.ptr 0 1 0 0, vI i] [(0, oS c b t w s), (1, oO s)] (vB (nxt c r b t w k i s).1) [(0, oS c b t w (nxt c r b t w k i s).2), (1, oO (nxt c r b t w k i s).2)] := by
  obtain ⟨ho, hcol, hcb, hrb, hab⟩ := hs
  have hri : i ≤ r * c := by omega
  have hr12 : r ≤ 12 := Nat.le_trans (Nat.le_mul_of_pos_right r (by omega)) hrc
  have hic : i / c ≤ r := by rw [Nat.div_le_iff_le_mul_add_pred (by omega), Nat.mul_comm]; omega
  have hwq : IntKind.i64.wrap ((t.length : Int).tdiv c) = r := by
    rw [ht, Int.tdiv_eq_ediv_of_nonneg (by omega), ← Int.natCast_ediv, Nat.mul_div_cancel _ (by omega)]
    exact IntWalk.i64_in _ (by omega)
  have hd1 : IntKind.i64.wrap ((i : Int).tdiv c) = ((i / c : Nat) : Int) := by
    rw [Int.tdiv_eq_ediv_of_nonneg (by omega), ← Int.natCast_ediv]
    generalize i / c = q at hic
    exact IntWalk.i64_in _ (by omega)
  have hd2 : IntKind.i64.wrap (((i / c : Nat) : Int) - 1) = ((i / c : Nat) : Int) - 1 := by
    generalize i / c = q at hic
    exact IntWalk.i64_in _ (by omega)
  have hm : (i : Int).tmod c = ((i % c : Nat) : Int) := by rw [Int.tmod_eq_emod_of_nonneg (by omega), ← Int.natCast_emod]
  have g17 := cell17 (c := c) (b := b) (t := t) (w := w) hcol
  have g18 := cell18 (c := c) (b := b) (t := t) (w := w) hcol
  have gl := cell_len (c := c) (b := b) (t := t) (w := w) hcol
  have hguard : (decide ((i : Int) > 0) && ((i % c : Nat) : Int) == 0) = true → (((i / c : Nat) : Int) - 1).toNat = i / c - 1 ∧ i / c - 1 < w.length ∧ (0 : Int) ≤ ((i / c : Nat) : Int) - 1 := by
    intro h
    simp only [Bool.and_eq_true, decide_eq_true_eq, beq_iff_eq] at h
    have h2 : i % c = 0 := by exact_mod_cast h.2
    have h3 : 1 ≤ i / c := (Nat.one_le_div_iff (by omega)).2 (Nat.le_of_dvd (by omega) (Nat.dvd_of_mod_eq_zero h2))
    have h4 : i / c ≤ r := hic
    generalize i / c = q at *
    omega
  refine spec_of_ir fn22 mixm (by simp) fun e _ hst => W_start ?_
  unfold ir22
  simp only [tl, tl2, isCallR, entX, argFr, ret, retI, retB, intT, unT, endR, ressR, resR, tupT, bslR, boxR, lenAll, ↓reduceIte, Nat.reduceEqDiff, Nat.reduceAdd, Nat.reduceMul, Nat.reduceLT, Nat.reduceLeDiff, reduceCtorEq, Int.reduceLE, Int.reduceLT, ne_eq, Int.reduceEq, not_false_eq_true, decide_true, decide_false, Int.reduceToNat, tl3, Int.reduceBNe, Int.reduceBEq, cell0, cell1, cell2, cell4, hwq, hd1, hd2, hm, g17]
  refine ⟨by omega, by kernel_rfl, by omega, by omega, fun h => ?_, fun h => ?_, ?_⟩
  · have := hguard h; omega
  · obtain ⟨h1, h2, _⟩ := hguard h
    rw [h1, getD_ints h2]; simp [T.cells]
  refine C2.im (r := vB (nearB (at0 w (i / c - 1)) s.row b)) (fun h => ?_) (fun h => ?_) (by rfl) ?_
  · obtain ⟨h1, h2, _⟩ := hguard h
    rw [h1, getD_ints h2]
    have e1 : w[i / c - 1] = at0 w (i / c - 1) := (getD_get h2).symm
    rw [e1]
    exact c30 _ _ _ (by rw [← e1]; exact hws _ (List.getElem_mem h2)) (by omega)
  · obtain ⟨h1, h2, _⟩ := hguard h
    rw [h1, getD_ints h2]; rfl
  simp only [tl, tl2, isCallR, entX, argFr, ret, retI, retB, intT, unT, endR, ressR, resR, tupT, bslR, boxR, lenAll, ↓reduceIte, Nat.reduceEqDiff, Nat.reduceAdd, Nat.reduceMul, Nat.reduceLT, Nat.reduceLeDiff, reduceCtorEq, Int.reduceLE, Int.reduceLT, ne_eq, Int.reduceEq, not_false_eq_true, decide_true, decide_false, Int.reduceToNat, tl3, Int.reduceBNe, Int.reduceBEq, bad_eq]
  refine ⟨by kernel_rfl, fun h => ?_, fun h => ?_⟩
  · rw [nxt_bad h]
    refine .of [(0, some 0), (1, some 1)] [] rfl rfl ?_ ?_
    · simp only [ltSto, ltO2, ltO1, ltAs, ltA, ltC, ltCs, ltT, ltFr, ltS, wrOk, wrO, TL.get, hasFr, ↓reduceIte, Nat.reduceEqDiff, reduceCtorEq, Option.getD_some, Option.isSome_some, List.length_map, List.length_append, List.length_cons, List.length_nil, List.append_nil, List.mem_singleton, List.mem_cons, List.not_mem_nil, and_true, true_and, and_self, imp_self, forall_const, false_implies, implies_true, true_implies, or_false, Bool.false_eq_true, Bool.true_eq_false, ImXs_nil, true_or, or_true, false_or, false_and, and_false, oS, oO]
      exact ⟨lt_cells rfl hcol, ltXs_ints _⟩
    · simp only [ltSto, ltO2, ltO1, ltAs, ltA, ltC, ltCs, ltT, ltFr, ltS, wrOk, wrO, TL.get, hasFr, ↓reduceIte, Nat.reduceEqDiff, reduceCtorEq, Option.getD_some, Option.isSome_some, List.length_map, List.length_append, List.length_cons, List.length_nil, List.append_nil, List.mem_singleton, List.mem_cons, List.not_mem_nil, and_true, true_and, and_self, imp_self, forall_const, false_implies, implies_true, true_implies, or_false, Bool.false_eq_true, Bool.true_eq_false, ImXs_nil, true_or, or_true, false_or, false_and, and_false]
  simp only [tl, tl2, isCallR, entX, argFr, ret, retI, retB, intT, unT, endR, ressR, resR, tupT, bslR, boxR, lenAll, ↓reduceIte, Nat.reduceEqDiff, Nat.reduceAdd, Nat.reduceMul, Nat.reduceLT, Nat.reduceLeDiff, reduceCtorEq, Int.reduceLE, Int.reduceLT, ne_eq, Int.reduceEq, not_false_eq_true, decide_true, decide_false, Int.reduceToNat, tl3, Int.reduceBNe, Int.reduceBEq, cell0, cell1, cell2, cell4, ht, decide_eq_true_eq, decide_eq_false_iff_not, beq_iff_eq, beq_eq_false_iff_ne]
  refine ⟨fun h2 => ?_, fun h2 => ?_⟩
  · obtain rfl : k = 0 := by omega
    have hr0 : (nxt c r b t w 0 i s) = (endS c r b w s, s) := by simp [nxt, h]
    rw [hr0]
    refine W_loop mixm (α := Nat) (fun j => j ≤ c ∧ ∀ q, q < j → nearB (at0 w (r + q)) (at0 s.col q) b = true) (fun j => [(0, .ptr 0 1 0 0), (5, vI r), (68, vI c), (69, vI j)]) (fun _ => [(0, oS c b t w s), (1, oO s)]) (fun j => c - j) 0 ⟨by omega, by omega⟩ ?_ fun j hj => ?_
    · refine .of [(0, some 0), (1, some 1)] [] rfl (by rw [hst]; rfl) ?_ ?_
      · simp only [ltSto, ltO2, ltO1, ltAs, ltA, ltC, ltCs, ltT, ltFr, ltS, wrOk, wrO, TL.get, hasFr, ↓reduceIte, Nat.reduceEqDiff, reduceCtorEq, Option.getD_some, Option.isSome_some, List.length_map, List.length_append, List.length_cons, List.length_nil, List.append_nil, List.mem_singleton, List.mem_cons, List.not_mem_nil, and_true, true_and, and_self, imp_self, forall_const, false_implies, implies_true, true_implies, or_false, Bool.false_eq_true, Bool.true_eq_false, ImXs_nil, true_or, or_true, false_or, false_and, and_false, oS, oO]
        exact ⟨lt_cells rfl hcol, ltXs_ints _⟩
      · simp only [ltSto, ltO2, ltO1, ltAs, ltA, ltC, ltCs, ltT, ltFr, ltS, wrOk, wrO, TL.get, hasFr, ↓reduceIte, Nat.reduceEqDiff, reduceCtorEq, Option.getD_some, Option.isSome_some, List.length_map, List.length_append, List.length_cons, List.length_nil, List.append_nil, List.mem_singleton, List.mem_cons, List.not_mem_nil, and_true, true_and, and_self, imp_self, forall_const, false_implies, implies_true, true_implies, or_false, Bool.false_eq_true, Bool.true_eq_false, ImXs_nil, true_or, or_true, false_or, false_and, and_false]
        rfl
    simp only [tl, tl2, isCallR, entX, argFr, ret, retI, retB, intT, unT, endR, ressR, resR, tupT, bslR, boxR, lenAll, ↓reduceIte, Nat.reduceEqDiff, Nat.reduceAdd, Nat.reduceMul, Nat.reduceLT, Nat.reduceLeDiff, reduceCtorEq, Int.reduceLE, Int.reduceLT, ne_eq, Int.reduceEq, not_false_eq_true, decide_true, decide_false, Int.reduceToNat, tl3, Int.reduceBNe, Int.reduceBEq, decide_eq_true_eq, decide_eq_false_iff_not]
    refine ⟨fun h3 => ?_, fun h3 => ?_⟩
    · have h4 : j < c := by omega
      have h5 : r + j < w.length := by omega
      have e1 : w[r + j] = at0 w (r + j) := (getD_get h5).symm
      have hw1 : IntKind.i64.wrap ((r : Int) + j) = ((r + j : Nat) : Int) := by rw [IntWalk.i64_in _ (by omega)]; omega
      have g5 := cell5 (c := c) (b := b) (t := t) (w := w) hcol (show j < 12 by omega)
      simp only [tl, tl2, isCallR, entX, argFr, ret, retI, retB, intT, unT, endR, ressR, resR, tupT, bslR, boxR, lenAll, ↓reduceIte, Nat.reduceEqDiff, Nat.reduceAdd, Nat.reduceMul, Nat.reduceLT, Nat.reduceLeDiff, reduceCtorEq, Int.reduceLE, Int.reduceLT, ne_eq, Int.reduceEq, not_false_eq_true, decide_true, decide_false, Int.reduceToNat, tl3, Int.reduceBNe, Int.reduceBEq, cell0, cell1, cell2, cell4, hw1, Int.toNat_natCast, Nat.mul_one, getD_ints h5, g5, e1]
      refine ⟨by omega, by omega, by omega, ?_⟩
      refine C1.im (c30 _ _ b (by rw [← e1]; exact hws _ (List.getElem_mem h5)) (by omega)) rfl (by rfl) ?_
      simp only [tl, tl2, isCallR, entX, argFr, ret, retI, retB, intT, unT, endR, ressR, resR, tupT, bslR, boxR, lenAll, ↓reduceIte, Nat.reduceEqDiff, Nat.reduceAdd, Nat.reduceMul, Nat.reduceLT, Nat.reduceLeDiff, reduceCtorEq, Int.reduceLE, Int.reduceLT, ne_eq, Int.reduceEq, not_false_eq_true, decide_true, decide_false, Int.reduceToNat, tl3, Int.reduceBNe, Int.reduceBEq, Bool.not_eq_true', Bool.not_eq_false']
      refine ⟨by kernel_rfl, fun h6 => ?_, fun h6 => ⟨j + 1, ⟨by omega, fun q hq => ?_⟩, by omega, ?_⟩⟩
      · have : endS c r b w s = false := by
          unfold endS
          rw [Bool.and_eq_false_iff]
          left
          rw [List.all_eq_false]
          exact ⟨j, by simpa using h4, by simp [h6]⟩
        rw [this]
        refine .of [(0, some 0), (1, some 1)] [] rfl rfl ?_ ?_
        · simp only [ltSto, ltO2, ltO1, ltAs, ltA, ltC, ltCs, ltT, ltFr, ltS, wrOk, wrO, TL.get, hasFr, ↓reduceIte, Nat.reduceEqDiff, reduceCtorEq, Option.getD_some, Option.isSome_some, List.length_map, List.length_append, List.length_cons, List.length_nil, List.append_nil, List.mem_singleton, List.mem_cons, List.not_mem_nil, and_true, true_and, and_self, imp_self, forall_const, false_implies, implies_true, true_implies, or_false, Bool.false_eq_true, Bool.true_eq_false, ImXs_nil, true_or, or_true, false_or, false_and, and_false, oS, oO]
          exact ⟨lt_cells rfl hcol, ltXs_ints _⟩
        · simp only [ltSto, ltO2, ltO1, ltAs, ltA, ltC, ltCs, ltT, ltFr, ltS, wrOk, wrO, TL.get, hasFr, ↓reduceIte, Nat.reduceEqDiff, reduceCtorEq, Option.getD_some, Option.isSome_some, List.length_map, List.length_append, List.length_cons, List.length_nil, List.append_nil, List.mem_singleton, List.mem_cons, List.not_mem_nil, and_true, true_and, and_self, imp_self, forall_const, false_implies, implies_true, true_implies, or_false, Bool.false_eq_true, Bool.true_eq_false, ImXs_nil, true_or, or_true, false_or, false_and, and_false]
      · by_cases e : q = j
        · subst e; exact h6
        · exact hj.2 q (by omega)
      · refine .of [(0, some 0), (1, some 1)] [] rfl (by rw [hst]; rfl) ?_ ?_
        · simp only [ltSto, ltO2, ltO1, ltAs, ltA, ltC, ltCs, ltT, ltFr, ltS, wrOk, wrO, TL.get, hasFr, ↓reduceIte, Nat.reduceEqDiff, reduceCtorEq, Option.getD_some, Option.isSome_some, List.length_map, List.length_append, List.length_cons, List.length_nil, List.append_nil, List.mem_singleton, List.mem_cons, List.not_mem_nil, and_true, true_and, and_self, imp_self, forall_const, false_implies, implies_true, true_implies, or_false, Bool.false_eq_true, Bool.true_eq_false, ImXs_nil, true_or, or_true, false_or, false_and, and_false, oS, oO]
          exact ⟨lt_cells rfl hcol, ltXs_ints _⟩
        · simp only [ltSto, ltO2, ltO1, ltAs, ltA, ltC, ltCs, ltT, ltFr, ltS, wrOk, wrO, TL.get, hasFr, ↓reduceIte, Nat.reduceEqDiff, reduceCtorEq, Option.getD_some, Option.isSome_some, List.length_map, List.length_append, List.length_cons, List.length_nil, List.append_nil, List.mem_singleton, List.mem_cons, List.not_mem_nil, and_true, true_and, and_self, imp_self, forall_const, false_implies, implies_true, true_implies, or_false, Bool.false_eq_true, Bool.true_eq_false, ImXs_nil, true_or, or_true, false_or, false_and, and_false]
          rw [IntWalk.i64_in _ (by omega)]
          rfl
    · have h4 : j = c := by omega
      subst h4
      have h5 : r + j < w.length := by omega
      have e1 : w[r + j] = at0 w (r + j) := (getD_get h5).symm
      have hw1 : IntKind.i64.wrap ((r : Int) + j) = ((r + j : Nat) : Int) := by rw [IntWalk.i64_in _ (by omega)]; omega
      simp only [tl, tl2, isCallR, entX, argFr, ret, retI, retB, intT, unT, endR, ressR, resR, tupT, bslR, boxR, lenAll, ↓reduceIte, Nat.reduceEqDiff, Nat.reduceAdd, Nat.reduceMul, Nat.reduceLT, Nat.reduceLeDiff, reduceCtorEq, Int.reduceLE, Int.reduceLT, ne_eq, Int.reduceEq, not_false_eq_true, decide_true, decide_false, Int.reduceToNat, tl3, Int.reduceBNe, Int.reduceBEq, cell0, cell1, cell2, cell4, g18, hw1, Int.toNat_natCast, Nat.mul_one, getD_ints h5, e1]
      refine ⟨by omega, ?_⟩
      refine C1.im (c30 _ _ b (by rw [← e1]; exact hws _ (List.getElem_mem h5)) (by omega)) rfl (by rfl) ?_
      simp only [tl, tl2, isCallR, entX, argFr, ret, retI, retB, intT, unT, endR, ressR, resR, tupT, bslR, boxR, lenAll, ↓reduceIte, Nat.reduceEqDiff, Nat.reduceAdd, Nat.reduceMul, Nat.reduceLT, Nat.reduceLeDiff, reduceCtorEq, Int.reduceLE, Int.reduceLT, ne_eq, Int.reduceEq, not_false_eq_true, decide_true, decide_false, Int.reduceToNat, tl3, Int.reduceBNe, Int.reduceBEq]
      have : endS j r b w s = nearB (at0 w (r + j)) s.all b := by
        unfold endS
        rw [List.all_eq_true.2 (fun q hq => hj.2 q (by simpa using hq))]
        rfl
      rw [this]
      refine ⟨by kernel_rfl, ?_⟩
      refine .of [(0, some 0), (1, some 1)] [] rfl rfl ?_ ?_
      · simp only [ltSto, ltO2, ltO1, ltAs, ltA, ltC, ltCs, ltT, ltFr, ltS, wrOk, wrO, TL.get, hasFr, ↓reduceIte, Nat.reduceEqDiff, reduceCtorEq, Option.getD_some, Option.isSome_some, List.length_map, List.length_append, List.length_cons, List.length_nil, List.append_nil, List.mem_singleton, List.mem_cons, List.not_mem_nil, and_true, true_and, and_self, imp_self, forall_const, false_implies, implies_true, true_implies, or_false, Bool.false_eq_true, Bool.true_eq_false, ImXs_nil, true_or, or_true, false_or, false_and, and_false, oS, oO]
        exact ⟨lt_cells rfl hcol, ltXs_ints _⟩
      · simp only [ltSto, ltO2, ltO1, ltAs, ltA, ltC, ltCs, ltT, ltFr, ltS, wrOk, wrO, TL.get, hasFr, ↓reduceIte, Nat.reduceEqDiff, reduceCtorEq, Option.getD_some, Option.isSome_some, List.length_map, List.length_append, List.length_cons, List.length_nil, List.append_nil, List.mem_singleton, List.mem_cons, List.not_mem_nil, and_true, true_and, and_self, imp_self, forall_const, false_implies, implies_true, true_implies, or_false, Bool.false_eq_true, Bool.true_eq_false, ImXs_nil, true_or, or_true, false_or, false_and, and_false]
  · obtain ⟨k, rfl⟩ : ∃ k', k = k' + 1 := ⟨k - 1, by omega⟩
    have h3 : i < t.length := by omega
    have h4 : i % c < c := Nat.mod_lt _ (by omega)
    have e1 : t[i] = at0 t i := (getD_get h3).symm
    have hti := hn _ (List.getElem_mem h3)
    have hr1 : nxt c r b t w (k + 1) i s = tryL (nxt c r b t w k (i + 1)) (mkS c i s.col (rowS c i s) s.all) (choi (at0 t i) b) s := by simp [nxt, h]
    rw [hr1]
    obtain ⟨L, hL, hL2⟩ : ∃ L, choi (at0 t i) b = L ∧ ∀ x ∈ L, 0 ≤ x ∧ x ≤ 1000020 := by
      refine ⟨_, rfl, fun x hx => ?_⟩
      have h8 := Int.emod_nonneg t[i] (b := b) (by omega)
      have h9 := Int.emod_lt_of_pos t[i] (b := b) (by omega)
      have h10 := Int.mul_ediv_add_emod t[i] b
      have h11 : 0 ≤ b * (t[i] / b) := Int.mul_nonneg (by omega) (Int.ediv_nonneg (by omega) (by omega))
      rw [← e1] at hx
      unfold choi at hx
      split at hx
      · simp at hx; omega
      · simp at hx; omega
    have hL3 : L.length ≤ 2 := by
      rw [← hL]; unfold choi; split <;> simp
    have cC := cellC (c := c) (b := b) (t := t) (w := w) hcol
    obtain ⟨row, hrow, hrowb⟩ : ∃ row, rowS c i s = row ∧ (-((i : Int) * 1000020) ≤ row ∧ row ≤ i * 1000020) := ⟨_, rfl, by unfold rowS; split <;> omega⟩
    have hget0 : ((List.map vI t).getD ((i : Int)).toNat T.junk) = vI (at0 t i) := by rw [Int.toNat_natCast, getD_ints h3, e1]
    refine ⟨by omega, fun h5 => ?_, fun h5 => ?_⟩
    · have hrow0 : row = 0 := by
        rw [← hrow]
        unfold rowS
        rw [if_pos (by rw [hm] at h5; exact_mod_cast h5)]
      rw [hrow, cC, g18, hget0, hL]
      refine ⟨⟨by simp [hcol], lives_ints _⟩, by kernel_rfl, by omega, by simp [T.cells], ?_⟩
      refine C1.im (c29 (at0 t i) b (by omega) (by omega)) rfl (by rfl) ?_
      rw [hL]
      simp only [tl, tl2, isCallR, entX, argFr, ret, retI, retB, intT, unT, endR, ressR, resR, tupT, bslR, boxR, lenAll, ↓reduceIte, Nat.reduceEqDiff, Nat.reduceAdd, Nat.reduceMul, Nat.reduceLT, Nat.reduceLeDiff, reduceCtorEq, Int.reduceLE, Int.reduceLT, ne_eq, Int.reduceEq, not_false_eq_true, decide_true, decide_false, Int.reduceToNat, tl3, Int.reduceBNe, Int.reduceBEq]
      refine ⟨by kernel_rfl, ?_⟩
      refine W_loop mixm (α := Nat × S34) (fun a => a.1 ≤ L.length ∧ (a.2.o.length = r * c ∧ a.2.col.length = 12) ∧ tryL (nxt c r b t w k (i + 1)) (mkS c i s.col row s.all) (L.drop a.1) a.2 = tryL (nxt c r b t w k (i + 1)) (mkS c i s.col row s.all) L s)
        (fun a => [(0, .ptr 0 1 0 0), (1, vI i), (7, vI row), (8, .ptr 2 1 0 0), (9, vI s.all), (145, vIs L), (146, vI L.length), (147, vI a.1)])
        (fun a => [(0, oS c b t w a.2), (1, oO a.2), (2, .arr 12 [.agg (s.col.map vI)] false)]) (fun a => L.length - a.1) (0, s) ⟨by omega, ⟨ho, hcol⟩, rfl⟩ ?_ fun a ha => ?_
      · refine .of [(0, some 0), (1, some 1), (2, some 65568)] [] rfl (by rw [hst]; rfl) ?_ ?_
        · simp only [ltSto, ltO2, ltO1, ltAs, ltA, ltC, ltCs, ltT, ltFr, ltS, wrOk, wrO, TL.get, hasFr, ↓reduceIte, Nat.reduceEqDiff, reduceCtorEq, Option.getD_some, Option.isSome_some, List.length_map, List.length_append, List.length_cons, List.length_nil, List.append_nil, List.mem_singleton, List.mem_cons, List.not_mem_nil, and_true, true_and, and_self, imp_self, forall_const, false_implies, implies_true, true_implies, or_false, Bool.false_eq_true, Bool.true_eq_false, ImXs_nil, true_or, or_true, false_or, false_and, and_false, oS, oO, hcol, List.length_map, List.drop_succ_cons, List.drop_zero, List.append_nil]
          refine ⟨lt_cells rfl hcol, ltXs_ints _, ltXs_cons ⟨by simp [T.cells, hcol], by simp [T.cells, hcol], ltCs_ints _⟩ ltXs_nil⟩
        · simp only [ltSto, ltO2, ltO1, ltAs, ltA, ltC, ltCs, ltT, ltFr, ltS, wrOk, wrO, TL.get, hasFr, ↓reduceIte, Nat.reduceEqDiff, reduceCtorEq, Option.getD_some, Option.isSome_some, List.length_map, List.length_append, List.length_cons, List.length_nil, List.append_nil, List.mem_singleton, List.mem_cons, List.not_mem_nil, and_true, true_and, and_self, imp_self, forall_const, false_implies, implies_true, true_implies, or_false, Bool.false_eq_true, Bool.true_eq_false, ImXs_nil, true_or, or_true, false_or, false_and, and_false]
          rw [hrow0]
          first | exact ⟨rfl, rfl⟩ | rfl
      obtain ⟨j, s'⟩ := a
      obtain ⟨ha1, ⟨ho', hcol'⟩, ha3⟩ := ha
      simp only at ha1 ho' hcol' ha3
      simp only [tl, tl2, isCallR, entX, argFr, ret, retI, retB, intT, unT, endR, ressR, resR, tupT, bslR, boxR, lenAll, ↓reduceIte, Nat.reduceEqDiff, Nat.reduceAdd, Nat.reduceMul, Nat.reduceLT, Nat.reduceLeDiff, reduceCtorEq, Int.reduceLE, Int.reduceLT, ne_eq, Int.reduceEq, not_false_eq_true, decide_true, decide_false, Int.reduceToNat, tl3, Int.reduceBNe, Int.reduceBEq, decide_eq_true_eq, decide_eq_false_iff_not]
      refine ⟨fun h6 => ?_, fun h6 => ?_⟩
      · have h7 : j < L.length := by omega
        have hx := hL2 _ (List.getElem_mem h7)
        have hv1 : IntKind.i64.wrap (row + L[j]) = row + L[j] := IntWalk.i64_in _ (by omega)
        have hv2 : IntKind.i64.wrap (s.all + L[j]) = s.all + L[j] := IntWalk.i64_in _ (by omega)
        have hio : i < s'.o.length := by omega
        have hci : i % c < 12 := by omega
        have htk : (s.col.map vI).take 12 = s.col.map vI := List.take_of_length_le (by simp [hcol])
        have q17 := rep17 (c := c) (b := b) (t := t) (w := w) (s := s') (x := row + L[j]) hcol'
        have q18 := rep18 (c := c) (b := b) (t := t) (w := w) (s := ⟨s'.o, s'.col, row + L[j], s'.all⟩) (x := s.all + L[j]) hcol'
        have qC := repC (c := c) (b := b) (t := t) (w := w) (s := ⟨s'.o, s'.col, row + L[j], s.all + L[j]⟩) (l := s.col) hcol' hcol
        simp only [tl, tl2, isCallR, entX, argFr, ret, retI, retB, intT, unT, endR, ressR, resR, tupT, bslR, boxR, lenAll, ↓reduceIte, Nat.reduceEqDiff, Nat.reduceAdd, Nat.reduceMul, Nat.reduceLT, Nat.reduceLeDiff, reduceCtorEq, Int.reduceLE, Int.reduceLT, ne_eq, Int.reduceEq, not_false_eq_true, decide_true, decide_false, Int.reduceToNat, tl3, Int.reduceBNe, Int.reduceBEq, Int.toNat_natCast, getD_ints h7, cell0, cell1, cell2, cell3, cell4, hv1, hv2, ho', map_set, getD_ints hio, q17, q18, htk, qC]
        refine ⟨by omega, by omega, by omega, ⟨hcol, lives_ints _⟩, ?_⟩
        have hv : IntKind.i64.wrap (at0 s.col (i % c) + L[j]) = at0 s.col (i % c) + L[j] := by
          have h8 : at0 s.col (i % c) ∈ s.col := by
            unfold at0
            rw [getD_get (by omega)]
            exact List.getElem_mem _
          have := hcb _ h8
          exact IntWalk.i64_in _ (by omega)
        have g5 := cell5 (c := c) (b := b) (t := t) (w := w) (s := ⟨s'.o, s.col, row + L[j], s.all + L[j]⟩) hcol hci
        have qI := repI (c := c) (b := b) (t := t) (w := w) (s := ⟨s'.o, s.col, row + L[j], s.all + L[j]⟩) (x := at0 s.col (i % c) + L[j]) hcol hci
        refine ⟨?_, ?_⟩
        · obtain ⟨a0, a1, a2, a3, a4, a5, a6, a7, a8, a9, b0, b1, hl12⟩ := list12 hcol
          rw [hl12]
          kernel_rfl
        simp only [tl, tl2, isCallR, entX, argFr, ret, retI, retB, intT, unT, endR, ressR, resR, tupT, bslR, boxR, lenAll, ↓reduceIte, Nat.reduceEqDiff, Nat.reduceAdd, Nat.reduceMul, Nat.reduceLT, Nat.reduceLeDiff, reduceCtorEq, Int.reduceLE, Int.reduceLT, ne_eq, Int.reduceEq, not_false_eq_true, decide_true, decide_false, Int.reduceToNat, tl3, Int.reduceBNe, Int.reduceBEq, cell0, cell1, cell2, cell3, cell4, hm, Int.toNat_natCast, Nat.mul_one, g5, hv, qI]
        refine ⟨by omega, by omega, by omega, by omega, by omega, ?_⟩
        refine ⟨by kernel_rfl, ?_⟩
        have hwi : IntKind.i64.wrap ((i : Int) + 1) = ((i + 1 : Nat) : Int) := by rw [IntWalk.i64_in _ (by omega)]; omega
        rw [hwi]
        have hok : okS (r * c) ((i + 1 : Nat) * 1000020) (mkS c i s.col row s.all L[j] s') := by
          refine ⟨by simp [mkS, ho'], by simp [mkS, hcol], fun x hx => ?_, by simp only [mkS]; omega, by simp only [mkS]; omega⟩
          simp only [mkS] at hx
          rcases List.mem_or_eq_of_mem_set hx with hx | hx
          · have := hcb _ hx; omega
          · have h8 : at0 s.col (i % c) ∈ s.col := by
              unfold at0
              rw [getD_get (by omega)]
              exact List.getElem_mem _
            have := hcb _ h8
            omega
        have hcall := ih k (mkS c i s.col row s.all L[j] s') rfl hok
        have hcells : cellsS c b t w ⟨s'.o, s.col.set (i % c) (at0 s.col (i % c) + L[j]), row + L[j], s.all + L[j]⟩ = cellsS c b t w (mkS c i s.col row s.all L[j] s') := by simp [cellsS, mkS]
        rw [hcells]
        have hnok := nxt_ok (c := c) (r := r) (b := b) (t := t) (w := w) k (i + 1) (mkS c i s.col row s.all L[j] s') hok.2.1
        refine C1.two 0 1 _ _ hcall hok.2.1 hnok.1 (by rfl) (by rfl) (by rfl) (by rfl) ?_
        simp only [tl, tl2, isCallR, entX, argFr, ret, retI, retB, intT, unT, endR, ressR, resR, tupT, bslR, boxR, lenAll, ↓reduceIte, Nat.reduceEqDiff, Nat.reduceAdd, Nat.reduceMul, Nat.reduceLT, Nat.reduceLeDiff, reduceCtorEq, Int.reduceLE, Int.reduceLT, ne_eq, Int.reduceEq, not_false_eq_true, decide_true, decide_false, Int.reduceToNat, tl3, Int.reduceBNe, Int.reduceBEq]
        have hdrop : L.drop j = L[j] :: L.drop (j + 1) := List.drop_eq_getElem_cons h7
        refine ⟨fun h8 => ?_, fun h8 => ⟨(j + 1, (nxt c r b t w k (i + 1) (mkS c i s.col row s.all L[j] s')).2), ⟨by simp only; omega, ⟨by rw [hnok.2]; exact hok.1, hnok.1⟩, ?_⟩, by simp only; omega, ?_⟩⟩
        · rw [← ha3, hdrop, tryL, if_pos h8]
          refine .of [(0, some 0), (1, some 1)] [] rfl rfl ?_ ?_
          · simp only [ltSto, ltO2, ltO1, ltAs, ltA, ltC, ltCs, ltT, ltFr, ltS, wrOk, wrO, TL.get, hasFr, ↓reduceIte, Nat.reduceEqDiff, reduceCtorEq, Option.getD_some, Option.isSome_some, List.length_map, List.length_append, List.length_cons, List.length_nil, List.append_nil, List.mem_singleton, List.mem_cons, List.not_mem_nil, and_true, true_and, and_self, imp_self, forall_const, false_implies, implies_true, true_implies, or_false, Bool.false_eq_true, Bool.true_eq_false, ImXs_nil, true_or, or_true, false_or, false_and, and_false, oS, oO]
            exact ⟨lt_cells rfl hnok.1, ltXs_ints _⟩
          · simp only [ltSto, ltO2, ltO1, ltAs, ltA, ltC, ltCs, ltT, ltFr, ltS, wrOk, wrO, TL.get, hasFr, ↓reduceIte, Nat.reduceEqDiff, reduceCtorEq, Option.getD_some, Option.isSome_some, List.length_map, List.length_append, List.length_cons, List.length_nil, List.append_nil, List.mem_singleton, List.mem_cons, List.not_mem_nil, and_true, true_and, and_self, imp_self, forall_const, false_implies, implies_true, true_implies, or_false, Bool.false_eq_true, Bool.true_eq_false, ImXs_nil, true_or, or_true, false_or, false_and, and_false]
        · rw [← ha3, hdrop, tryL, if_neg (by rw [h8]; simp)]
        · refine .of [(0, some 0), (1, some 1), (2, some 2)] [] rfl (by rw [hst]; rfl) ?_ ?_
          · simp only [ltSto, ltO2, ltO1, ltAs, ltA, ltC, ltCs, ltT, ltFr, ltS, wrOk, wrO, TL.get, hasFr, ↓reduceIte, Nat.reduceEqDiff, reduceCtorEq, Option.getD_some, Option.isSome_some, List.length_map, List.length_append, List.length_cons, List.length_nil, List.append_nil, List.mem_singleton, List.mem_cons, List.not_mem_nil, and_true, true_and, and_self, imp_self, forall_const, false_implies, implies_true, true_implies, or_false, Bool.false_eq_true, Bool.true_eq_false, ImXs_nil, true_or, or_true, false_or, false_and, and_false, oS, oO]
            exact ⟨lt_cells rfl hnok.1, ltXs_ints _, ltXs_cons ⟨by simp [T.cells, hcol], by simp [T.cells, hcol], ltCs_ints _⟩ ltXs_nil⟩
          · simp only [ltSto, ltO2, ltO1, ltAs, ltA, ltC, ltCs, ltT, ltFr, ltS, wrOk, wrO, TL.get, hasFr, ↓reduceIte, Nat.reduceEqDiff, reduceCtorEq, Option.getD_some, Option.isSome_some, List.length_map, List.length_append, List.length_cons, List.length_nil, List.append_nil, List.mem_singleton, List.mem_cons, List.not_mem_nil, and_true, true_and, and_self, imp_self, forall_const, false_implies, implies_true, true_implies, or_false, Bool.false_eq_true, Bool.true_eq_false, ImXs_nil, true_or, or_true, false_or, false_and, and_false]
            rw [IntWalk.i64_in _ (by omega)]
            rfl
      · have h7 : j = L.length := by omega
        rw [h7, List.drop_length, tryL] at ha3
        rw [← ha3]
        refine .of [(0, some 0), (1, some 1)] [] rfl rfl ?_ ?_
        · simp only [ltSto, ltO2, ltO1, ltAs, ltA, ltC, ltCs, ltT, ltFr, ltS, wrOk, wrO, TL.get, hasFr, ↓reduceIte, Nat.reduceEqDiff, reduceCtorEq, Option.getD_some, Option.isSome_some, List.length_map, List.length_append, List.length_cons, List.length_nil, List.append_nil, List.mem_singleton, List.mem_cons, List.not_mem_nil, and_true, true_and, and_self, imp_self, forall_const, false_implies, implies_true, true_implies, or_false, Bool.false_eq_true, Bool.true_eq_false, ImXs_nil, true_or, or_true, false_or, false_and, and_false, oS, oO]
          exact ⟨lt_cells rfl hcol', ltXs_ints _⟩
        · simp only [ltSto, ltO2, ltO1, ltAs, ltA, ltC, ltCs, ltT, ltFr, ltS, wrOk, wrO, TL.get, hasFr, ↓reduceIte, Nat.reduceEqDiff, reduceCtorEq, Option.getD_some, Option.isSome_some, List.length_map, List.length_append, List.length_cons, List.length_nil, List.append_nil, List.mem_singleton, List.mem_cons, List.not_mem_nil, and_true, true_and, and_self, imp_self, forall_const, false_implies, implies_true, true_implies, or_false, Bool.false_eq_true, Bool.true_eq_false, ImXs_nil, true_or, or_true, false_or, false_and, and_false]
    · have hrow0 : row = s.row := by
        rw [← hrow]
        unfold rowS
        rw [if_neg (by rw [hm] at h5; exact_mod_cast h5)]
      rw [hrow, cC, g17, g18, hget0, hL]
      refine ⟨⟨by simp [hcol], lives_ints _⟩, by kernel_rfl, by omega, by simp [T.cells], ?_⟩
      refine C1.im (c29 (at0 t i) b (by omega) (by omega)) rfl (by rfl) ?_
      rw [hL]
      simp only [tl, tl2, isCallR, entX, argFr, ret, retI, retB, intT, unT, endR, ressR, resR, tupT, bslR, boxR, lenAll, ↓reduceIte, Nat.reduceEqDiff, Nat.reduceAdd, Nat.reduceMul, Nat.reduceLT, Nat.reduceLeDiff, reduceCtorEq, Int.reduceLE, Int.reduceLT, ne_eq, Int.reduceEq, not_false_eq_true, decide_true, decide_false, Int.reduceToNat, tl3, Int.reduceBNe, Int.reduceBEq]
      refine ⟨by kernel_rfl, ?_⟩
      refine W_loop mixm (α := Nat × S34) (fun a => a.1 ≤ L.length ∧ (a.2.o.length = r * c ∧ a.2.col.length = 12) ∧ tryL (nxt c r b t w k (i + 1)) (mkS c i s.col row s.all) (L.drop a.1) a.2 = tryL (nxt c r b t w k (i + 1)) (mkS c i s.col row s.all) L s)
        (fun a => [(0, .ptr 0 1 0 0), (1, vI i), (7, vI row), (8, .ptr 2 1 0 0), (9, vI s.all), (145, vIs L), (146, vI L.length), (147, vI a.1)])
        (fun a => [(0, oS c b t w a.2), (1, oO a.2), (2, .arr 12 [.agg (s.col.map vI)] false)]) (fun a => L.length - a.1) (0, s) ⟨by omega, ⟨ho, hcol⟩, rfl⟩ ?_ fun a ha => ?_
      · refine .of [(0, some 0), (1, some 1), (2, some 65568)] [] rfl (by rw [hst]; rfl) ?_ ?_
        · simp only [ltSto, ltO2, ltO1, ltAs, ltA, ltC, ltCs, ltT, ltFr, ltS, wrOk, wrO, TL.get, hasFr, ↓reduceIte, Nat.reduceEqDiff, reduceCtorEq, Option.getD_some, Option.isSome_some, List.length_map, List.length_append, List.length_cons, List.length_nil, List.append_nil, List.mem_singleton, List.mem_cons, List.not_mem_nil, and_true, true_and, and_self, imp_self, forall_const, false_implies, implies_true, true_implies, or_false, Bool.false_eq_true, Bool.true_eq_false, ImXs_nil, true_or, or_true, false_or, false_and, and_false, oS, oO, hcol, List.length_map, List.drop_succ_cons, List.drop_zero, List.append_nil]
          refine ⟨lt_cells rfl hcol, ltXs_ints _, ltXs_cons ⟨by simp [T.cells, hcol], by simp [T.cells, hcol], ltCs_ints _⟩ ltXs_nil⟩
        · simp only [ltSto, ltO2, ltO1, ltAs, ltA, ltC, ltCs, ltT, ltFr, ltS, wrOk, wrO, TL.get, hasFr, ↓reduceIte, Nat.reduceEqDiff, reduceCtorEq, Option.getD_some, Option.isSome_some, List.length_map, List.length_append, List.length_cons, List.length_nil, List.append_nil, List.mem_singleton, List.mem_cons, List.not_mem_nil, and_true, true_and, and_self, imp_self, forall_const, false_implies, implies_true, true_implies, or_false, Bool.false_eq_true, Bool.true_eq_false, ImXs_nil, true_or, or_true, false_or, false_and, and_false]
          rw [hrow0]
          first | exact ⟨rfl, rfl⟩ | rfl
      obtain ⟨j, s'⟩ := a
      obtain ⟨ha1, ⟨ho', hcol'⟩, ha3⟩ := ha
      simp only at ha1 ho' hcol' ha3
      simp only [tl, tl2, isCallR, entX, argFr, ret, retI, retB, intT, unT, endR, ressR, resR, tupT, bslR, boxR, lenAll, ↓reduceIte, Nat.reduceEqDiff, Nat.reduceAdd, Nat.reduceMul, Nat.reduceLT, Nat.reduceLeDiff, reduceCtorEq, Int.reduceLE, Int.reduceLT, ne_eq, Int.reduceEq, not_false_eq_true, decide_true, decide_false, Int.reduceToNat, tl3, Int.reduceBNe, Int.reduceBEq, decide_eq_true_eq, decide_eq_false_iff_not]
      refine ⟨fun h6 => ?_, fun h6 => ?_⟩
      · have h7 : j < L.length := by omega
        have hx := hL2 _ (List.getElem_mem h7)
        have hv1 : IntKind.i64.wrap (row + L[j]) = row + L[j] := IntWalk.i64_in _ (by omega)
        have hv2 : IntKind.i64.wrap (s.all + L[j]) = s.all + L[j] := IntWalk.i64_in _ (by omega)
        have hio : i < s'.o.length := by omega
        have hci : i % c < 12 := by omega
        have htk : (s.col.map vI).take 12 = s.col.map vI := List.take_of_length_le (by simp [hcol])
        have q17 := rep17 (c := c) (b := b) (t := t) (w := w) (s := s') (x := row + L[j]) hcol'
        have q18 := rep18 (c := c) (b := b) (t := t) (w := w) (s := ⟨s'.o, s'.col, row + L[j], s'.all⟩) (x := s.all + L[j]) hcol'
        have qC := repC (c := c) (b := b) (t := t) (w := w) (s := ⟨s'.o, s'.col, row + L[j], s.all + L[j]⟩) (l := s.col) hcol' hcol
        simp only [tl, tl2, isCallR, entX, argFr, ret, retI, retB, intT, unT, endR, ressR, resR, tupT, bslR, boxR, lenAll, ↓reduceIte, Nat.reduceEqDiff, Nat.reduceAdd, Nat.reduceMul, Nat.reduceLT, Nat.reduceLeDiff, reduceCtorEq, Int.reduceLE, Int.reduceLT, ne_eq, Int.reduceEq, not_false_eq_true, decide_true, decide_false, Int.reduceToNat, tl3, Int.reduceBNe, Int.reduceBEq, Int.toNat_natCast, getD_ints h7, cell0, cell1, cell2, cell3, cell4, hv1, hv2, ho', map_set, getD_ints hio, q17, q18, htk, qC]
        refine ⟨by omega, by omega, by omega, ⟨hcol, lives_ints _⟩, ?_⟩
        have hv : IntKind.i64.wrap (at0 s.col (i % c) + L[j]) = at0 s.col (i % c) + L[j] := by
          have h8 : at0 s.col (i % c) ∈ s.col := by
            unfold at0
            rw [getD_get (by omega)]
            exact List.getElem_mem _
          have := hcb _ h8
          exact IntWalk.i64_in _ (by omega)
        have g5 := cell5 (c := c) (b := b) (t := t) (w := w) (s := ⟨s'.o, s.col, row + L[j], s.all + L[j]⟩) hcol hci
        have qI := repI (c := c) (b := b) (t := t) (w := w) (s := ⟨s'.o, s.col, row + L[j], s.all + L[j]⟩) (x := at0 s.col (i % c) + L[j]) hcol hci
        refine ⟨?_, ?_⟩
        · obtain ⟨a0, a1, a2, a3, a4, a5, a6, a7, a8, a9, b0, b1, hl12⟩ := list12 hcol
          rw [hl12]
          kernel_rfl
        simp only [tl, tl2, isCallR, entX, argFr, ret, retI, retB, intT, unT, endR, ressR, resR, tupT, bslR, boxR, lenAll, ↓reduceIte, Nat.reduceEqDiff, Nat.reduceAdd, Nat.reduceMul, Nat.reduceLT, Nat.reduceLeDiff, reduceCtorEq, Int.reduceLE, Int.reduceLT, ne_eq, Int.reduceEq, not_false_eq_true, decide_true, decide_false, Int.reduceToNat, tl3, Int.reduceBNe, Int.reduceBEq, cell0, cell1, cell2, cell3, cell4, hm, Int.toNat_natCast, Nat.mul_one, g5, hv, qI]
        refine ⟨by omega, by omega, by omega, by omega, by omega, ?_⟩
        refine ⟨by kernel_rfl, ?_⟩
        have hwi : IntKind.i64.wrap ((i : Int) + 1) = ((i + 1 : Nat) : Int) := by rw [IntWalk.i64_in _ (by omega)]; omega
        rw [hwi]
        have hok : okS (r * c) ((i + 1 : Nat) * 1000020) (mkS c i s.col row s.all L[j] s') := by
          refine ⟨by simp [mkS, ho'], by simp [mkS, hcol], fun x hx => ?_, by simp only [mkS]; omega, by simp only [mkS]; omega⟩
          simp only [mkS] at hx
          rcases List.mem_or_eq_of_mem_set hx with hx | hx
          · have := hcb _ hx; omega
          · have h8 : at0 s.col (i % c) ∈ s.col := by
              unfold at0
              rw [getD_get (by omega)]
              exact List.getElem_mem _
            have := hcb _ h8
            omega
        have hcall := ih k (mkS c i s.col row s.all L[j] s') rfl hok
        have hcells : cellsS c b t w ⟨s'.o, s.col.set (i % c) (at0 s.col (i % c) + L[j]), row + L[j], s.all + L[j]⟩ = cellsS c b t w (mkS c i s.col row s.all L[j] s') := by simp [cellsS, mkS]
        rw [hcells]
        have hnok := nxt_ok (c := c) (r := r) (b := b) (t := t) (w := w) k (i + 1) (mkS c i s.col row s.all L[j] s') hok.2.1
        refine C1.two 0 1 _ _ hcall hok.2.1 hnok.1 (by rfl) (by rfl) (by rfl) (by rfl) ?_
        simp only [tl, tl2, isCallR, entX, argFr, ret, retI, retB, intT, unT, endR, ressR, resR, tupT, bslR, boxR, lenAll, ↓reduceIte, Nat.reduceEqDiff, Nat.reduceAdd, Nat.reduceMul, Nat.reduceLT, Nat.reduceLeDiff, reduceCtorEq, Int.reduceLE, Int.reduceLT, ne_eq, Int.reduceEq, not_false_eq_true, decide_true, decide_false, Int.reduceToNat, tl3, Int.reduceBNe, Int.reduceBEq]
        have hdrop : L.drop j = L[j] :: L.drop (j + 1) := List.drop_eq_getElem_cons h7
        refine ⟨fun h8 => ?_, fun h8 => ⟨(j + 1, (nxt c r b t w k (i + 1) (mkS c i s.col row s.all L[j] s')).2), ⟨by simp only; omega, ⟨by rw [hnok.2]; exact hok.1, hnok.1⟩, ?_⟩, by simp only; omega, ?_⟩⟩
        · rw [← ha3, hdrop, tryL, if_pos h8]
          refine .of [(0, some 0), (1, some 1)] [] rfl rfl ?_ ?_
          · simp only [ltSto, ltO2, ltO1, ltAs, ltA, ltC, ltCs, ltT, ltFr, ltS, wrOk, wrO, TL.get, hasFr, ↓reduceIte, Nat.reduceEqDiff, reduceCtorEq, Option.getD_some, Option.isSome_some, List.length_map, List.length_append, List.length_cons, List.length_nil, List.append_nil, List.mem_singleton, List.mem_cons, List.not_mem_nil, and_true, true_and, and_self, imp_self, forall_const, false_implies, implies_true, true_implies, or_false, Bool.false_eq_true, Bool.true_eq_false, ImXs_nil, true_or, or_true, false_or, false_and, and_false, oS, oO]
            exact ⟨lt_cells rfl hnok.1, ltXs_ints _⟩
          · simp only [ltSto, ltO2, ltO1, ltAs, ltA, ltC, ltCs, ltT, ltFr, ltS, wrOk, wrO, TL.get, hasFr, ↓reduceIte, Nat.reduceEqDiff, reduceCtorEq, Option.getD_some, Option.isSome_some, List.length_map, List.length_append, List.length_cons, List.length_nil, List.append_nil, List.mem_singleton, List.mem_cons, List.not_mem_nil, and_true, true_and, and_self, imp_self, forall_const, false_implies, implies_true, true_implies, or_false, Bool.false_eq_true, Bool.true_eq_false, ImXs_nil, true_or, or_true, false_or, false_and, and_false]
        · rw [← ha3, hdrop, tryL, if_neg (by rw [h8]; simp)]
        · refine .of [(0, some 0), (1, some 1), (2, some 2)] [] rfl (by rw [hst]; rfl) ?_ ?_
          · simp only [ltSto, ltO2, ltO1, ltAs, ltA, ltC, ltCs, ltT, ltFr, ltS, wrOk, wrO, TL.get, hasFr, ↓reduceIte, Nat.reduceEqDiff, reduceCtorEq, Option.getD_some, Option.isSome_some, List.length_map, List.length_append, List.length_cons, List.length_nil, List.append_nil, List.mem_singleton, List.mem_cons, List.not_mem_nil, and_true, true_and, and_self, imp_self, forall_const, false_implies, implies_true, true_implies, or_false, Bool.false_eq_true, Bool.true_eq_false, ImXs_nil, true_or, or_true, false_or, false_and, and_false, oS, oO]
            exact ⟨lt_cells rfl hnok.1, ltXs_ints _, ltXs_cons ⟨by simp [T.cells, hcol], by simp [T.cells, hcol], ltCs_ints _⟩ ltXs_nil⟩
          · simp only [ltSto, ltO2, ltO1, ltAs, ltA, ltC, ltCs, ltT, ltFr, ltS, wrOk, wrO, TL.get, hasFr, ↓reduceIte, Nat.reduceEqDiff, reduceCtorEq, Option.getD_some, Option.isSome_some, List.length_map, List.length_append, List.length_cons, List.length_nil, List.append_nil, List.mem_singleton, List.mem_cons, List.not_mem_nil, and_true, true_and, and_self, imp_self, forall_const, false_implies, implies_true, true_implies, or_false, Bool.false_eq_true, Bool.true_eq_false, ImXs_nil, true_or, or_true, false_or, false_and, and_false]
            rw [IntWalk.i64_in _ (by omega)]
            rfl
      · have h7 : j = L.length := by omega
        rw [h7, List.drop_length, tryL] at ha3
        rw [← ha3]
        refine .of [(0, some 0), (1, some 1)] [] rfl rfl ?_ ?_
        · simp only [ltSto, ltO2, ltO1, ltAs, ltA, ltC, ltCs, ltT, ltFr, ltS, wrOk, wrO, TL.get, hasFr, ↓reduceIte, Nat.reduceEqDiff, reduceCtorEq, Option.getD_some, Option.isSome_some, List.length_map, List.length_append, List.length_cons, List.length_nil, List.append_nil, List.mem_singleton, List.mem_cons, List.not_mem_nil, and_true, true_and, and_self, imp_self, forall_const, false_implies, implies_true, true_implies, or_false, Bool.false_eq_true, Bool.true_eq_false, ImXs_nil, true_or, or_true, false_or, false_and, and_false, oS, oO]
          exact ⟨lt_cells rfl hcol', ltXs_ints _⟩
        · simp only [ltSto, ltO2, ltO1, ltAs, ltA, ltC, ltCs, ltT, ltFr, ltS, wrOk, wrO, TL.get, hasFr, ↓reduceIte, Nat.reduceEqDiff, reduceCtorEq, Option.getD_some, Option.isSome_some, List.length_map, List.length_append, List.length_cons, List.length_nil, List.append_nil, List.mem_singleton, List.mem_cons, List.not_mem_nil, and_true, true_and, and_self, imp_self, forall_const, false_implies, implies_true, true_implies, or_false, Bool.false_eq_true, Bool.true_eq_false, ImXs_nil, true_or, or_true, false_or, false_and, and_false]
theorem c22 (c r : Nat) (b : Int) (t w : List Int) (hc : 1 ≤ c ∧ c ≤ 12) (hrc : r * c ≤ 12) (ht : t.length = r * c) (hn : ∀ n ∈ t, 0 ≤ n ∧ n ≤ 1000000) (hb : 1 ≤ b ∧ b ≤ 20) (hw : w.length = r + c + 1) (hws : ∀ n ∈ w, sm n) :
    ∀ (k i : Nat) (s : S34), i + k = r * c → okS (r * c) (i * 1000020) s → Spc Try.prog 22 [.ptr 0 1 0 0, vI i] [(0, oS c b t w s), (1, oO s)] (vB (nxt c r b t w k i s).1) [(0, oS c b t w (nxt c r b t w k i s).2), (1, oO (nxt c r b t w k i s).2)] := by
  intro k
  induction k with
  | zero => exact fun i s hi hs => c22_step c r b t w hc hrc ht hn hb hw hws 0 i s hi hs fun k' s' h => by omega
  | succ k ih =>
    intro i s hi hs
    refine c22_step c r b t w hc hrc ht hn hb hw hws (k + 1) i s hi hs fun k' s' h hs' => ?_
    obtain rfl : k = k' := by omega
    exact ih (i + 1) s' (by omega) hs'
end Go.Proofs

