import Derived.Test.YtnhhmfplebpipaaF
set_option linter.unusedSimpArgs false
set_option linter.unusedVariables false
namespace Go.Proofs
open Go Go.TL
theorem sumN_congr {f g : Nat → Int} : ∀ (n : Nat), (∀ i, i < n → f i = g i) → sumN f n = sumN g n
  | 0, _ => rfl
  | n + 1, h => by
    simp only [sumN]
    rw [sumN_congr n fun i hi => h i (by omega), h n (by omega)]
theorem sumN_zero {f : Nat → Int} : ∀ (n : Nat), (∀ i, i < n → f i = 0) → sumN f n = 0
  | 0, _ => rfl
  | n + 1, h => by
    simp only [sumN]
    rw [sumN_zero n fun i hi => h i (by omega), h n (by omega)]
    rfl
theorem sumN_add {f : Nat → Int} {a : Nat} : ∀ (b : Nat), sumN f (a + b) = sumN f a + sumN (fun k => f (a + k)) b
  | 0 => by simp [sumN]
  | b + 1 => by
    rw [← Nat.add_assoc]
    simp only [sumN]
    rw [sumN_add b]
    omega
theorem sumN_blocks {f : Nat → Int} {c : Nat} : ∀ (i : Nat), sumN f (i * c) = sumN (fun q => sumN (fun k => f (q * c + k)) c) i
  | 0 => by simp [sumN]
  | i + 1 => by
    rw [Nat.add_mul, Nat.one_mul, sumN_add, sumN_blocks i]
    rfl
theorem sumN_one {f : Nat → Int} {j : Nat} : ∀ (n : Nat), j < n → (∀ i, i < n → i ≠ j → f i = 0) → sumN f n = f j
  | 0, h, _ => by omega
  | n + 1, h, h0 => by
    simp only [sumN]
    by_cases e : j = n
    · subst e
      rw [sumN_zero j fun i hi => h0 i (by omega) (by omega)]
      omega
    · rw [sumN_one n (by omega) fun i hi hj => h0 i (by omega) hj, h0 n (by omega) (by omega)]
      omega
theorem gS_row (t : List Int) {r c j : Nat} (hj : j < r) : gS t c r (r * c) j = rS t c j c := by
  unfold gS
  rw [if_pos hj, sumN_blocks, sumN_one r hj fun i hi hne => sumN_zero c fun k hk => ?_]
  · refine sumN_congr c fun k hk => ?_
    rw [if_pos]
    rw [Nat.mul_comm, Nat.mul_add_div (by omega), Nat.div_eq_of_lt hk]
    rfl
  · rw [if_neg]
    rw [Nat.mul_comm, Nat.mul_add_div (by omega), Nat.div_eq_of_lt hk]
    exact hne
theorem gS_col (t : List Int) {r c k : Nat} (hk : k < c) : gS t c r (r * c) (r + k) = cS t c k r := by
  unfold gS
  rw [if_neg (by omega), if_pos (by omega), sumN_blocks]
  refine sumN_congr r fun i hi => ?_
  rw [sumN_one c hk fun q hq hne => ?_]
  · rw [if_pos]
    rw [Nat.mul_comm, Nat.mul_add_mod, Nat.mod_eq_of_lt hk]
    omega
  · rw [if_neg]
    rw [Nat.mul_comm, Nat.mul_add_mod, Nat.mod_eq_of_lt hq]
    omega
theorem gS_tot (t : List Int) {r c : Nat} : gS t c r (r * c) (r + c) = tS t c r := by
  unfold gS
  rw [if_neg (by omega), if_neg (by omega), sumN_blocks]
  rfl
theorem nearAll_iff {t x : List Int} {b : Int} (hl : x.length = t.length) : nearAll t x b = true ↔ ∀ i, i < t.length → nearB (at0 t i) (at0 x i) b = true := by
  unfold nearAll
  rw [List.all_eq_true]
  constructor
  · intro h i hi
    have h1 := h (t[i], x[i]) (by
      have : (List.zip t x)[i]'(by simp; omega) = (t[i], x[i]) := by simp
      rw [← this]; exact List.getElem_mem _)
    unfold at0
    rw [getD_get hi, getD_get (by omega)]
    exact h1
  · intro h p hp
    obtain ⟨i, hi, rfl⟩ := List.getElem_of_mem hp
    have hi2 : i < t.length := by simp at hi; omega
    have h1 := h i hi2
    unfold at0 at h1
    rw [getD_get hi2, getD_get (by omega)] at h1
    simpa using h1
theorem sol_iff {r c : Nat} {t x : List Int} {b : Int} (hc : 0 < c) (ht : t.length = r * c) (hx : x.length = r * c) : solB r c t x b = true ↔ fitR r c t x b = true := by
  rw [fitR_iff]
  unfold solB sumsB
  rw [Bool.and_eq_true, nearAll_iff (by omega), List.all_eq_true]
  simp only [List.mem_range]
  constructor
  · rintro ⟨h1, h2⟩
    refine ⟨fun i hi => ⟨fun k hk => h1 _ (by rw [ht]; exact idx_lt hi hk), ?_⟩, fun k hk => ?_, ?_⟩
    · have := h2 i (by omega)
      rwa [gS_row t hi, gS_row x hi] at this
    · have := h2 (r + k) (by omega)
      rwa [gS_col t hk, gS_col x hk] at this
    · have := h2 (r + c) (by omega)
      rwa [gS_tot, gS_tot] at this
  · rintro ⟨h1, h2, h3⟩
    refine ⟨fun i hi => ?_, fun j hj => ?_⟩
    · rw [ht] at hi
      have h4 : i / c < r := by rw [Nat.div_lt_iff_lt_mul hc]; exact hi
      have h5 := (h1 (i / c) h4).1 (i % c) (Nat.mod_lt _ hc)
      have h6 : i / c * c + i % c = i := by rw [Nat.mul_comm]; exact Nat.div_add_mod i c
      rwa [h6] at h5
    · by_cases e1 : j < r
      · rw [gS_row t e1, gS_row x e1]; exact (h1 j e1).2
      · by_cases e2 : j < r + c
        · obtain ⟨k, rfl⟩ : ∃ k, j = r + k := ⟨j - r, by omega⟩
          rw [gS_col t (by omega), gS_col x (by omega)]
          exact h2 k (by omega)
        · have : j = r + c := by omega
          subst this
          rw [gS_tot, gS_tot]; exact h3
theorem sol_eq {r c : Nat} {t x : List Int} {b : Int} (hc : 0 < c) (ht : t.length = r * c) (hx : x.length = r * c) : fitR r c t x b = solB r c t x b := by
  cases h : solB r c t x b
  · exact not_fit fun h2 => by rw [(sol_iff hc ht hx).2 h2] at h; cases h
  · exact (sol_iff hc ht hx).1 h
theorem c15 (r c : Int) (t x : List Int) (b : Int) (hl : t.length < 4611686018427387904) (hx : x.length < 4611686018427387904) :
    Spc Try.prog 15 [vI r, vI c, vIs t, vIs x, vI b] [] (chkT r c t x b) [] := by
  refine spec_of_ir fn15 mixm (by simp) fun e _ hst => W_start ?_
  unfold ir15
  simp only [tl, tl2, isCallR, entX, argFr, ret, retI, retB, intT, unT, endR, ressR, resR, tupT, bslR, boxR, lenAll, ↓reduceIte, Nat.reduceEqDiff, Nat.reduceAdd, Nat.reduceMul, Nat.reduceLT, Nat.reduceLeDiff, reduceCtorEq, Int.reduceLE, Int.reduceLT, ne_eq, Int.reduceEq, not_false_eq_true, decide_true, decide_false, Int.reduceToNat, tl3, Int.reduceBNe, Int.reduceBEq, sp_eq2]
  refine ⟨fun h1 => ?_, fun h1 => ?_⟩
  · rw [chkT, if_pos h1]
    exact .imR rfl rfl
  obtain ⟨s1, s2, s3⟩ := sp_ok h1
  have s4 : 0 ≤ r * c := Int.mul_nonneg (by omega) (by omega)
  rw [IntWalk.i64_in _ (by omega)]
  simp only [Bool.or_eq_true, Bool.or_eq_false_iff, bne_iff_ne, bne_eq_false_iff_eq, ne_eq]
  refine ⟨fun h2 => ?_, fun h2 => ?_⟩
  · have e : chkT r c t x b = .tup [vB false, vI 17] := by
      unfold chkT
      rw [if_neg (by rw [h1]; simp)]
      split
      · rfl
      · rename_i h3
        have e2 : checkE r c t b = 17 := by
          unfold checkE
          rw [if_neg (by rw [h1]; simp), if_pos (by omega)]
        rw [e2]
        rfl
    rw [e]
    exact .imR rfl rfl
  · refine C1.im (c26 t b hl) rfl (by rfl) ?_
    simp only [tl, tl2, isCallR, entX, argFr, ret, retI, retB, intT, unT, endR, ressR, resR, tupT, bslR, boxR, lenAll, ↓reduceIte, Nat.reduceEqDiff, Nat.reduceAdd, Nat.reduceMul, Nat.reduceLT, Nat.reduceLeDiff, reduceCtorEq, Int.reduceLE, Int.reduceLT, ne_eq, Int.reduceEq, not_false_eq_true, decide_true, decide_false, Int.reduceToNat, tl3, Int.reduceBNe, Int.reduceBEq, bne_iff_ne, bne_eq_false_iff_eq]
    have hE : checkE r c t b = if rightB t b = true then 0 else 2 := by
      unfold checkE
      rw [if_neg (by rw [h1]; simp), if_neg (by omega)]
    have eT : chkT r c t x b = if checkE r c t b = 0 then .tup [vB (solB r.toNat c.toNat t x b), vI 0] else .tup [vB false, vI (checkE r c t b)] := by
      unfold chkT
      rw [if_neg (by rw [h1]; simp), if_neg (by omega)]
    rw [eT, hE]
    cases t2 : rightB t b
    · exact ⟨fun _ => .imR rfl rfl, fun h => by simp at h⟩
    refine ⟨fun h => by simp at h, fun _ => ?_⟩
    simp only [if_true]
    obtain ⟨hb, hn⟩ := right_all t2
    obtain ⟨r, rfl, r1, r2⟩ := nat_of s1
    obtain ⟨c, rfl, c1, c2⟩ := nat_of s2
    have hrc : r * c ≤ 12 := by exact_mod_cast s3
    have htl : t.length = r * c := by exact_mod_cast h2.1
    have hxl : x.length = r * c := by exact_mod_cast h2.2
    simp only [Int.toNat_natCast]
    refine W_loop mixm (α := Nat) (fun i => i ≤ x.length ∧ ∀ j, j < i → nearB (at0 t j) (at0 x j) b = true)
      (fun i => [(0, vI r), (1, vI c), (2, vIs t), (3, vIs x), (4, vI b), (55, vIs x), (56, vI x.length), (57, vI i)]) (fun _ => []) (fun i => x.length - i) 0 ⟨by omega, by omega⟩ (.ofFr (by simp [hasFr, TL.get])) fun i hi => ?_
    simp only [tl, tl2, isCallR, entX, argFr, ret, retI, retB, intT, unT, endR, ressR, resR, tupT, bslR, boxR, lenAll, ↓reduceIte, Nat.reduceEqDiff, Nat.reduceAdd, Nat.reduceMul, Nat.reduceLT, Nat.reduceLeDiff, reduceCtorEq, Int.reduceLE, Int.reduceLT, ne_eq, Int.reduceEq, not_false_eq_true, decide_true, decide_false, Int.reduceToNat, tl3, Int.reduceBNe, Int.reduceBEq, decide_eq_true_eq, decide_eq_false_iff_not]
    refine ⟨fun h4 => ?_, fun h4 => ?_⟩
    · have h5 : i < x.length := by omega
      have h6 : i < t.length := by omega
      have hx1 := hn _ (List.getElem_mem h6)
      have e1 : t[i] = at0 t i := (getD_get _).symm
      have e2 : x[i] = at0 x i := (getD_get _).symm
      simp only [tl, tl2, isCallR, entX, argFr, ret, retI, retB, intT, unT, endR, ressR, resR, tupT, bslR, boxR, lenAll, ↓reduceIte, Nat.reduceEqDiff, Nat.reduceAdd, Nat.reduceMul, Nat.reduceLT, Nat.reduceLeDiff, reduceCtorEq, Int.reduceLE, Int.reduceLT, ne_eq, Int.reduceEq, not_false_eq_true, decide_true, decide_false, Int.reduceToNat, tl3, Int.reduceBNe, Int.reduceBEq, Int.toNat_natCast, getD_ints h5, getD_ints h6]
      refine ⟨by omega, by omega, ?_⟩
      refine C1.im (c27 _ _ b (by unfold sm; omega) (by omega)) rfl (by rfl) ?_
      simp only [tl, tl2, isCallR, entX, argFr, ret, retI, retB, intT, unT, endR, ressR, resR, tupT, bslR, boxR, lenAll, ↓reduceIte, Nat.reduceEqDiff, Nat.reduceAdd, Nat.reduceMul, Nat.reduceLT, Nat.reduceLeDiff, reduceCtorEq, Int.reduceLE, Int.reduceLT, ne_eq, Int.reduceEq, not_false_eq_true, decide_true, decide_false, Int.reduceToNat, tl3, Int.reduceBNe, Int.reduceBEq, Bool.not_eq_true', Bool.not_eq_false', e1, e2]
      refine ⟨fun h7 => ?_, fun h7 => ⟨i + 1, ⟨by omega, fun j hj => ?_⟩, by omega, .ofFr ?_⟩⟩
      · have : solB r c t x b = false := by
          unfold solB
          cases h : nearAll t x b
          · rfl
          · have := (nearAll_iff (by omega)).1 h i h6
            rw [h7] at this
            cases this
        rw [this]
        exact .imR rfl rfl
      · by_cases e : j = i
        · subst e; exact h7
        · exact hi.2 j (by omega)
      · simp only [ltSto, ltO2, ltO1, ltAs, ltA, ltC, ltCs, ltT, ltFr, ltS, wrOk, wrO, TL.get, hasFr, ↓reduceIte, Nat.reduceEqDiff, reduceCtorEq, Option.getD_some, Option.isSome_some, List.length_map, List.length_append, List.length_cons, List.length_nil, List.append_nil, List.mem_singleton, List.mem_cons, List.not_mem_nil, and_true, true_and, and_self, imp_self, forall_const, false_implies, implies_true, true_implies, or_false, Bool.false_eq_true, Bool.true_eq_false, ImXs_nil, true_or, or_true, false_or, false_and, and_false]
        rw [IntWalk.i64_in _ (by omega)]
        rfl
    · have h5 : i = x.length := by omega
      subst h5
      have hna : nearAll t x b = true := (nearAll_iff (by omega)).2 fun j hj => hi.2 j (by omega)
      have hox := near_okT hna (by omega) hn (by omega)
      refine C1.im (c25 r c t x b (by omega) (by omega) (by omega) htl hxl (okT_of hn) hox (by omega)) rfl (by rfl) ?_
      simp only [tl, tl2, isCallR, entX, argFr, ret, retI, retB, intT, unT, endR, ressR, resR, tupT, bslR, boxR, lenAll, ↓reduceIte, Nat.reduceEqDiff, Nat.reduceAdd, Nat.reduceMul, Nat.reduceLT, Nat.reduceLeDiff, reduceCtorEq, Int.reduceLE, Int.reduceLT, ne_eq, Int.reduceEq, not_false_eq_true, decide_true, decide_false, Int.reduceToNat, tl3, Int.reduceBNe, Int.reduceBEq]
      rw [sol_eq (by omega) htl hxl]
      exact .imR rfl rfl
end Go.Proofs

