import Derived.Test.YtnhhmfplebpipaaP
set_option linter.unusedSimpArgs false
set_option linter.unusedVariables false
namespace Go.Proofs
open Go Go.TL
structure InvS (c r i : Nat) (b : Int) (t p : List Int) (s : S34) : Prop where
  len : p.length = i
  col12 : s.col.length = 12
  take : s.o.take i = p
  olen : s.o.length = r * c
  col : ∀ q, q < c → at0 s.col q = gS p c r i (r + q)
  all : s.all = gS p c r i (r + c)
  row : 0 < i → s.row = gS p c r i ((i - 1) / c)
  good : ∀ j, (j + 1) * c < i → nearB (gS t c r (r * c) j) (gS p c r i j) b = true
theorem div_pred {i c : Nat} (hc : 0 < c) (hi : 0 < i) (h : i % c = 0) : (i - 1) / c = i / c - 1 ∧ 0 < i / c ∧ (i / c - 1 + 1) * c = i := by
  have h1 : i / c * c = i := Nat.div_mul_cancel (Nat.dvd_of_mod_eq_zero h)
  have h2 : 0 < i / c := Nat.div_pos (Nat.le_of_dvd hi (Nat.dvd_of_mod_eq_zero h)) hc
  refine ⟨?_, h2, by rw [Nat.sub_add_cancel h2]; exact h1⟩
  have h3 : i / c = (i / c - 1) + 1 := by omega
  have h4 : i - 1 = c * (i / c - 1) + (c - 1) := by
    have : c * (i / c - 1) + c = i := by rw [← Nat.mul_succ, Nat.succ_eq_add_one, Nat.sub_add_cancel h2, Nat.mul_comm]; exact h1
    omega
  rw [h4, Nat.mul_add_div hc, Nat.div_eq_of_lt (show c - 1 < c by omega)]
  rfl
theorem div_same {i c : Nat} (hc : 0 < c) (h : i % c ≠ 0) : 0 < i ∧ (i - 1) / c = i / c := by
  have h1 := Nat.div_add_mod i c
  have h2 := Nat.mod_lt i hc
  have hi : 0 < i := by
    rcases Nat.eq_zero_or_pos i with e | e
    · subst e; simp at h
    · exact e
  refine ⟨hi, ?_⟩
  have h4 : i - 1 = c * (i / c) + (i % c - 1) := by omega
  rw [h4, Nat.mul_add_div hc, Nat.div_eq_of_lt (show i % c - 1 < c by omega)]
  omega
theorem nxt_spec {c r : Nat} {b : Int} {t w : List Int} (hc : 0 < c) (hc12 : c ≤ 12) (ht : t.length = r * c) (hw : ∀ j, j < r + c + 1 → at0 w j = gS t c r (r * c) j) :
    ∀ (k i : Nat) (s : S34) (p : List Int), i + k = r * c → InvS c r i b t p s →
      match (prod ((t.drop i).map fun n => choi n b)).find? (fun q => sumsB r c t (p ++ q) b) with
      | some q => (nxt c r b t w k i s).1 = true ∧ (nxt c r b t w k i s).2.o = p ++ q
      | none => (nxt c r b t w k i s).1 = false := by
  intro k
  have hbad : ∀ (i : Nat) (s : S34) (p q : List Int) (k : Nat), i + k = r * c → InvS c r i b t p s → badS c b w i s = true → sumsB r c t (p ++ q) b = false := by
    intro i s p q k hik hI hb
    simp only [badS, Bool.and_eq_true, decide_eq_true_eq, Bool.not_eq_true'] at hb
    obtain ⟨h1, h2, h3⟩ := hb
    obtain ⟨d1, d2, d3⟩ := div_pred hc h1 h2
    have hjr : i / c - 1 < r := by
      have : i / c ≤ r := by
        rw [Nat.div_le_iff_le_mul_add_pred hc, Nat.mul_comm]; omega
      omega
    unfold sumsB
    rw [List.all_eq_false]
    refine ⟨i / c - 1, by simp; omega, ?_⟩
    have e1 : gS (p ++ q) c r (r * c) (i / c - 1) = gS p c r i (i / c - 1) := by
      rw [← hik, gS_done hc hjr (by omega), gS_app (by rw [hI.len]; exact Nat.le_refl _)]
    rw [hw _ (by omega), hI.row h1, d1] at h3
    rw [e1, h3]
    simp
  have hgood : ∀ (i : Nat) (s : S34) (p : List Int) (k : Nat), i + k = r * c → InvS c r i b t p s → badS c b w i s = false → ∀ j, (j + 1) * c ≤ i → nearB (gS t c r (r * c) j) (gS p c r i j) b = true := by
    intro i s p k hik hI hb j hj
    by_cases e : (j + 1) * c < i
    · exact hI.good j e
    · have e : (j + 1) * c = i := by omega
      have hi : 0 < i := by rw [← e]; exact Nat.mul_pos (by omega) hc
      have hm : i % c = 0 := by rw [← e]; exact Nat.mul_mod_left _ _
      obtain ⟨d1, d2, d3⟩ := div_pred hc hi hm
      have hj2 : i / c - 1 = j := by
        have : i / c = j + 1 := by rw [← e]; exact Nat.mul_div_cancel _ hc
        omega
      have hjr : j < r := by
        have : (j + 1) * c ≤ r * c := by omega
        have := Nat.le_of_mul_le_mul_right this hc
        omega
      have h3 : nearB (at0 w (i / c - 1)) s.row b = true := by
        simp only [badS, hi, hm, decide_true, Bool.true_and, Bool.not_eq_false'] at hb
        exact hb
      rw [hj2, hw _ (by omega), hI.row hi, d1, hj2] at h3
      exact h3
  induction k with
  | zero =>
    intro i s p hik hI
    have hi : i = r * c := by omega
    have hd : t.drop i = [] := List.drop_of_length_le (by omega)
    rw [hd]
    simp only [List.map_nil, prod, List.find?_cons, List.find?_nil, List.append_nil]
    unfold nxt
    cases hb : badS c b w i s
    · simp only [Bool.false_eq_true, if_false]
      have hE : sumsB r c t p b = endS c r b w s := by
        have hg := hgood i s p 0 hik hI hb
        subst hi
        unfold sumsB endS
        rw [Bool.eq_iff_iff]
        simp only [List.all_eq_true, List.mem_range, Bool.and_eq_true]
        constructor
        · intro h
          refine ⟨fun q hq => ?_, ?_⟩
          · have := h (r + q) (by omega)
            rw [hw _ (by omega), hI.col q hq]
            exact this
          · have := h (r + c) (by omega)
            rw [hw _ (by omega), hI.all]
            exact this
        · rintro ⟨h1, h2⟩ j hj
          by_cases j1 : j < r
          · exact hg j (Nat.mul_le_mul_right c (by omega))
          · by_cases j2 : j < r + c
            · have := h1 (j - r) (by omega)
              rw [hw _ (by omega), hI.col _ (by omega), show r + (j - r) = j by omega] at this
              exact this
            · have e : j = r + c := by omega
              rw [e]
              rw [hw _ (by omega), hI.all] at h2
              exact h2
      rw [hE]
      cases hS : endS c r b w s
      · rfl
      · refine ⟨rfl, ?_⟩
        have := hI.take
        rw [List.take_of_length_le (by rw [hI.olen]; omega)] at this
        rw [this, List.append_nil]
    · have := hbad i s p [] 0 hik hI hb
      rw [List.append_nil] at this
      rw [this]
      rfl
  | succ k ih =>
    intro i s p hik hI
    have hit : i < t.length := by omega
    unfold nxt
    cases hb : badS c b w i s
    · simp only [Bool.false_eq_true, if_false]
      have hg := hgood i s p (k + 1) hik hI hb
      rw [List.drop_eq_getElem_cons hit, List.map_cons, prod]
      have et : at0 t i = t[i] := getD_get hit
      rw [et]
      generalize choi t[i] b = L
      have hic : i % c < c := Nat.mod_lt _ hc
      have hir : i / c < r := by rw [Nat.div_lt_iff_lt_mul hc]; omega
      have hrow : rowS c i s = gS p c r i (i / c) := by
        unfold rowS
        split
        · rename_i h0
          rw [gS_none hir]
          have := Nat.div_mul_cancel (Nat.dvd_of_mod_eq_zero h0)
          omega
        · rename_i h0
          obtain ⟨d1, d2⟩ := div_same hc h0
          rw [hI.row d1, d2]
      have key : ∀ (L : List Int) (s' : S34), s'.o.length = r * c → s'.o.take i = p → s'.col.length = 12 →
          match (L.flatMap fun x => (prod ((t.drop (i + 1)).map fun n => choi n b)).map (x :: ·)).find? (fun q => sumsB r c t (p ++ q) b) with
          | some q => (tryL (nxt c r b t w k (i + 1)) (mkS c i s.col (rowS c i s) s.all) L s').1 = true ∧ (tryL (nxt c r b t w k (i + 1)) (mkS c i s.col (rowS c i s) s.all) L s').2.o = p ++ q
          | none => (tryL (nxt c r b t w k (i + 1)) (mkS c i s.col (rowS c i s) s.all) L s').1 = false := by
        intro L
        induction L with
        | nil => exact fun s' _ _ _ => rfl
        | cons n L ihL =>
          intro s' h1 h2 h3
          have hat : at0 (p ++ [n]) i = n := by
            unfold at0
            rw [getD_get (by simp [hI.len])]
            simp [hI.len]
          have hI' : InvS c r (i + 1) b t (p ++ [n]) (mkS c i s.col (rowS c i s) s.all n s') := by
            have hgS : ∀ j, gS (p ++ [n]) c r i j = gS p c r i j := fun j => gS_app (by rw [hI.len]; exact Nat.le_refl _)
            refine ⟨by simp [hI.len], by simp [mkS, hI.col12], ?_, by simp [mkS, h1], fun q hq => ?_, ?_, fun _ => ?_, fun j hj => ?_⟩
            · show (s'.o.set i n).take (i + 1) = _
              rw [take_set (by omega), h2]
            · rw [gS_next, hgS, if_neg (by omega), if_pos (by omega), hat, show r + q - r = q by omega, ← hI.col q hq]
              show at0 (s.col.set (i % c) (at0 s.col (i % c) + n)) q = _
              unfold at0
              have hl12 := hI.col12
              rw [getD_get (by simp; omega), List.getElem_set]
              by_cases e : i % c = q
              · rw [if_pos e, if_pos e, e]
              · rw [if_neg e, if_neg e, Int.add_zero]
                exact (getD_get (by omega)).symm
            · rw [gS_next, hgS, if_neg (by omega), if_neg (by omega), hat, ← hI.all]
              rfl
            · rw [gS_next, hgS, show i + 1 - 1 = i by omega, if_pos hir, if_pos rfl, hat, ← hrow]
              rfl
            · have hj2 : (j + 1) * c ≤ i := by omega
              have hjr : j < r := by
                have : (j + 1) * c ≤ r * c := by omega
                have := Nat.le_of_mul_le_mul_right this hc
                omega
              rw [gS_done hc hjr hj2, hgS]
              exact hg j hj2
          have hih := ih (i + 1) (mkS c i s.col (rowS c i s) s.all n s') (p ++ [n]) (by omega) hI'
          have hf : (fun q => sumsB r c t ((p ++ [n]) ++ q) b) = ((fun q => sumsB r c t (p ++ q) b) ∘ (n :: ·)) := by
            funext q
            simp
          rw [hf] at hih
          rw [List.flatMap_cons, List.find?_append, List.find?_map]
          unfold tryL
          cases hfd : (prod ((t.drop (i + 1)).map fun n => choi n b)).find? ((fun q => sumsB r c t (p ++ q) b) ∘ (n :: ·)) with
          | some q =>
            rw [hfd] at hih
            simp only [Option.map_some, Option.some_or]
            rw [if_pos hih.1]
            exact ⟨rfl, by rw [hih.2]; simp⟩
          | none =>
            rw [hfd] at hih
            simp only [Option.map_none, Option.none_or]
            rw [if_neg (by rw [hih]; simp)]
            refine ihL _ ?_ ?_ ?_
            · rw [(nxt_ok k (i + 1) _ hI'.col12).2]
              exact hI'.olen
            · have h5 := congrArg (List.take i) (nxt_take (c := c) (r := r) (b := b) (t := t) (w := w) k (i + 1) (mkS c i s.col (rowS c i s) s.all n s'))
              rw [List.take_take, List.take_take, Nat.min_eq_left (Nat.le_succ i)] at h5
              rw [h5]
              show (s'.o.set i n).take i = p
              rw [List.take_set_of_le (Nat.le_refl i), h2]
            · exact (nxt_ok k (i + 1) _ hI'.col12).1
      exact key L s hI.olen hI.take hI.col12
    · simp only [if_true]
      rw [List.find?_eq_none.2 fun q _ => by rw [hbad i s p q (k + 1) hik hI hb]; simp]
      trivial
/-- what both rounds answer -/
theorem rnd_fst {r c : Nat} {t : List Int} {b : Int} (hr : 0 < r) (hc : 0 < c ∧ c ≤ 12) (hb : 1 ≤ b) (ht : t.length = r * c) : rnd r c t b = fstT r c t b := by
  have hw : ∀ j, j < r + c + 1 → at0 (sumsL t c r) j = gS t c r (r * c) j := by
    intro j hj
    unfold at0 sumsL
    rw [getD_get (by rw [pS_len]; exact hj), pS_get, ht]
  have h := nxt_spec (b := b) hc.1 hc.2 ht hw (r * c) 0 (s00 (r * c)) [] (by omega) ⟨rfl, by simp [s00], rfl, by simp [s00], fun q hq => ?_, ?_, fun h => by omega, fun j hj => by omega⟩
  · have e : (prod ((t.drop 0).map fun n => choi n b)).find? (fun q => sumsB r c t ([] ++ q) b) = some (fstT r c t b) := by
      rw [← fst_some hc.1 hb ht]
      simp only [List.drop_zero, List.nil_append]
      refine find_same fun x hx => ?_
      have := (mem_prod hb).1 hx
      unfold solB
      rw [this.2]
      rfl
    rw [e] at h
    exact h.2
  · have : at0 (s00 (r * c)).col q = 0 := by
      show (List.replicate 12 (0 : Int)).getD q 0 = 0
      rw [getD_get (by simp; omega)]
      exact List.getElem_replicate _
    rw [this]
    unfold gS
    rw [if_neg (by omega), if_pos (by omega)]
    rfl
  · unfold gS
    rw [if_neg (by omega), if_neg (by omega)]
    rfl
end Go.Proofs

