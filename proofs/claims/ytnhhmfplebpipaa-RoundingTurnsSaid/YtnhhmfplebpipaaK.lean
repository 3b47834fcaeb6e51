import Derived.Test.YtnhhmfplebpipaaJ
set_option linter.unusedSimpArgs false
set_option linter.unusedVariables false
namespace Go.Proofs
open Go Go.TL
/-! ltSto, ltO2, ltO1, ltAs, ltA, ltC, ltCs, ltT, ltFr, ltS, wrOk, wrO, TL.get, hasFr, ↓reduceIte, Nat.reduceEqDiff, reduceCtorEq, Option.getD_some, Option.isSome_some, List.length_map, List.length_append, List.length_cons, List.length_nil, List.append_nil, List.mem_singleton, List.mem_cons, List.not_mem_nil, and_true, true_and, and_self, imp_self, forall_const, false_implies, implies_true, true_implies, or_false, Bool.false_eq_true, Bool.true_eq_false, ImXs_nil, true_or, or_true, false_or, false_and, and_false# Round of the reference -/
def pk : List (List Int) → Nat → Option (List Int)
  | [], _ => some []
  | v :: r, bits => match v[(bits / 2 ^ r.length) % 2]? with
    | some x => (pk r bits).map (x :: ·)
    | none => none
def refT (r c : Int) (t : List Int) (b : Int) : T :=
  if checkE r c t b = 0 then match ((List.range (2 ^ t.length)).filterMap (pk (t.map fun n => choi n b))).find? (fun x => fitR r.toNat c.toNat t x b) with
    | some x => .tup [vIs x, vI 0]
    | none => .tup [.sl 1 [], vI 21]
  else .tup [.sl 1 [], vI (checkE r c t b)]
theorem shl_nat {n : Nat} (h : n ≤ 12) : shlI .i64 1 (n : Int) = ((2 ^ n : Nat) : Int) := by
  have h2 : 2 ^ n ≤ 4096 := Nat.le_trans (Nat.pow_le_pow_right (by omega) h) (by decide)
  have h3 : (2 : Int) ^ (n : Int).toNat = ((2 ^ n : Nat) : Int) := by
    rw [Int.toNat_natCast]
    exact (Int.natCast_pow 2 n).symm
  have h4 : (0 : Int) ≤ ((2 ^ n : Nat) : Int) := Int.natCast_nonneg _
  have h5 : ((2 ^ n : Nat) : Int) ≤ 4096 := Int.ofNat_le.2 h2
  generalize ((2 ^ n : Nat) : Int) = m at h3 h4 h5
  rw [shl_small (by omega) h3 (by omega)]
  omega
theorem shr_nat {x n : Nat} (h : n ≤ 12) : shrI .i64 (x : Int) (n : Int) = ((x / 2 ^ n : Nat) : Int) := by
  unfold shrI
  have e : min (n : Int).toNat IntKind.i64.bits = n := by
    rw [Int.toNat_natCast]
    exact Nat.min_eq_left (Nat.le_trans h (by decide))
  rw [e, Int.fdiv_eq_ediv_of_nonneg _ (Int.le_of_lt (Int.pow_pos (by omega)))]
  push_cast
  rfl
theorem and_one {x : Nat} (h : x ≤ 1000000) : andI .i64 (x : Int) 1 = ((x % 2 : Nat) : Int) := by
  unfold andI
  have e : (BitVec.ofInt IntKind.i64.bits (x : Int) &&& BitVec.ofInt IntKind.i64.bits 1).toNat = x % 2 := by
    show (BitVec.ofInt 64 (x : Int) &&& BitVec.ofInt 64 1).toNat = x % 2
    rw [BitVec.toNat_and, BitVec.ofInt_natCast, BitVec.toNat_ofNat, Nat.mod_eq_of_lt (by omega)]
    show x &&& 1 = x % 2
    exact Nat.and_one_is_mod x
  rw [e]
  exact IntWalk.i64_in _ (by omega)
theorem pk_drop {V : List (List Int)} {j i : Nat} (h : j < V.length) : pk (V.drop j) i = match V[j][(i / 2 ^ (V.length - 1 - j)) % 2]? with
    | some x => (pk (V.drop (j + 1)) i).map (x :: ·)
    | none => none := by
  rw [List.drop_eq_getElem_cons h, pk, List.length_drop, show V.length - (j + 1) = V.length - 1 - j by omega]
theorem next_none {V : List (List Int)} {i : Nat} {p : List Int → Bool} (h : ((List.range i).filterMap (pk V)).find? p = none) (h2 : ∀ x, pk V i = some x → p x = false) : ((List.range (i + 1)).filterMap (pk V)).find? p = none := by
  rw [List.range_succ, List.filterMap_append, List.find?_append, h]
  cases hp : pk V i with
  | none => simp [hp]
  | some x => simp [hp, h2 x hp]
theorem found {V : List (List Int)} {i M : Nat} {p : List Int → Bool} {x : List Int} (h : ((List.range i).filterMap (pk V)).find? p = none) (hi : i < M) (h2 : pk V i = some x) (h3 : p x = true) : ((List.range M).filterMap (pk V)).find? p = some x := by
  have e : List.range M = List.range i ++ i :: (List.range' (i + 1) (M - i - 1)) := by
    rw [List.range_eq_range', List.range_eq_range', ← List.range'_succ, show M - i - 1 + 1 = M - i by omega]
    have := List.range'_append (s := 0) (m := i) (n := M - i) (step := 1)
    simp only [Nat.zero_add, Nat.one_mul] at this
    rw [this, show i + (M - i) = M by omega]
  rw [e, List.filterMap_append, List.find?_append, h, List.filterMap_cons, h2]
  simp [h3]
theorem c14 (r c : Int) (t : List Int) (b : Int) (hl : t.length < 4611686018427387904) : Spc Try.prog 14 [vI r, vI c, vIs t, vI b] [] (refT r c t b) [] := by
  refine spec_of_ir fn14 mixm (by simp) fun e _ hst => W_start ?_
  unfold ir14
  simp only [tl, tl2, isCallR, entX, argFr, ret, retI, retB, intT, unT, endR, ressR, resR, tupT, bslR, boxR, lenAll, ↓reduceIte, Nat.reduceEqDiff, Nat.reduceAdd, Nat.reduceMul, Nat.reduceLT, Nat.reduceLeDiff, reduceCtorEq, Int.reduceLE, Int.reduceLT, ne_eq, Int.reduceEq, not_false_eq_true, decide_true, decide_false, Int.reduceToNat, tl3, Int.reduceBNe, Int.reduceBEq]
  refine C1.im (c24 r c t b hl) rfl (by rfl) ?_
  simp only [tl, tl2, isCallR, entX, argFr, ret, retI, retB, intT, unT, endR, ressR, resR, tupT, bslR, boxR, lenAll, ↓reduceIte, Nat.reduceEqDiff, Nat.reduceAdd, Nat.reduceMul, Nat.reduceLT, Nat.reduceLeDiff, reduceCtorEq, Int.reduceLE, Int.reduceLT, ne_eq, Int.reduceEq, not_false_eq_true, decide_true, decide_false, Int.reduceToNat, tl3, Int.reduceBNe, Int.reduceBEq, bne_iff_ne, bne_eq_false_iff_eq]
  refine ⟨fun h1 => ?_, fun h1 => ?_⟩
  · rw [refT, if_neg h1]
    refine .of [] [] rfl rfl trivial ?_
    simp only [ltSto, ltO2, ltO1, ltAs, ltA, ltC, ltCs, ltT, ltFr, ltS, wrOk, wrO, TL.get, hasFr, ↓reduceIte, Nat.reduceEqDiff, reduceCtorEq, Option.getD_some, Option.isSome_some, List.length_map, List.length_append, List.length_cons, List.length_nil, List.append_nil, List.mem_singleton, List.mem_cons, List.not_mem_nil, and_true, true_and, and_self, imp_self, forall_const, false_implies, implies_true, true_implies, or_false, Bool.false_eq_true, Bool.true_eq_false, ImXs_nil, true_or, or_true, false_or, false_and, and_false]
  rw [refT, if_pos h1]
  obtain ⟨t0, t1, t2⟩ := check_0 h1
  obtain ⟨s1, s2, s3⟩ := sp_ok t0
  obtain ⟨hb, hn⟩ := right_all t2
  obtain ⟨r, rfl, r1, r2⟩ := nat_of s1
  obtain ⟨c, rfl, c1, c2⟩ := nat_of s2
  have hrc : r * c ≤ 12 := by exact_mod_cast s3
  have htl : t.length = r * c := by exact_mod_cast t1
  simp only [Int.toNat_natCast]
  have h17 := c17 t b hl
  have hv : valsR t b = .tup [.sl 1 ((t.map fun n => choi n b).map vIs), vI 0] := by
    rw [valsR, if_neg (by omega), if_pos t2]
  rw [hv] at h17
  obtain ⟨V, hV⟩ : ∃ V, (t.map fun n => choi n b) = V := ⟨_, rfl⟩
  have hVl : V.length = r * c := by rw [← hV]; simp [htl]
  have hVb : ∀ v ∈ V, v.length ≤ 2 ∧ ∀ x ∈ v, 0 ≤ x ∧ x ≤ 1000020 := by
    intro v hv
    rw [← hV] at hv
    obtain ⟨n, hn1, rfl⟩ := List.mem_map.1 hv
    have h7 := hn n hn1
    have h8 := Int.emod_nonneg n (b := b) (by omega)
    have h9 := Int.emod_lt_of_pos n (b := b) (by omega)
    have h10 := Int.mul_ediv_add_emod n b
    have h11 : 0 ≤ b * (n / b) := Int.mul_nonneg (by omega) (Int.ediv_nonneg (by omega) (by omega))
    unfold choi
    split
    · exact ⟨by simp, fun x hx => by simp at hx; omega⟩
    · exact ⟨by simp, fun x hx => by simp at hx; omega⟩
  rw [hV] at h17 ⊢
  refine C1.im h17 rfl (by rfl) ?_
  simp only [tl, tl2, isCallR, entX, argFr, ret, retI, retB, intT, unT, endR, ressR, resR, tupT, bslR, boxR, lenAll, ↓reduceIte, Nat.reduceEqDiff, Nat.reduceAdd, Nat.reduceMul, Nat.reduceLT, Nat.reduceLeDiff, reduceCtorEq, Int.reduceLE, Int.reduceLT, ne_eq, Int.reduceEq, not_false_eq_true, decide_true, decide_false, Int.reduceToNat, tl3, Int.reduceBNe, Int.reduceBEq, htl]
  obtain ⟨M, hM⟩ : ∃ M, 2 ^ (r * c) = M := ⟨_, rfl⟩
  have hM2 : M ≤ 4096 := by
    rw [← hM]
    exact Nat.le_trans (Nat.pow_le_pow_right (by omega) hrc) (by decide)
  rw [hM]
  refine W_loop mixm (α := Nat) (fun i => i ≤ M ∧ ((List.range i).filterMap (pk V)).find? (fun x => fitR r c t x b) = none)
    (fun i => [(0, vI r), (1, vI c), (2, vIs t), (3, vI b), (11, .sl 1 (V.map vIs)), (13, vI ((r * c : Nat) : Int)), (14, vI i)]) (fun _ => []) (fun i => M - i) 0 ⟨by omega, by simp⟩ (.ofFr (by simp [hasFr, TL.get])) fun i hi => ?_
  simp only [tl, tl2, isCallR, entX, argFr, ret, retI, retB, intT, unT, endR, ressR, resR, tupT, bslR, boxR, lenAll, ↓reduceIte, Nat.reduceEqDiff, Nat.reduceAdd, Nat.reduceMul, Nat.reduceLT, Nat.reduceLeDiff, reduceCtorEq, Int.reduceLE, Int.reduceLT, ne_eq, Int.reduceEq, not_false_eq_true, decide_true, decide_false, Int.reduceToNat, tl3, Int.reduceBNe, Int.reduceBEq, decide_eq_true_eq, decide_eq_false_iff_not]
  rw [shl_nat hrc, hM]
  refine ⟨by omega, fun h3 => ?_, fun h3 => ?_⟩
  · have h3 : i < M := by omega
    refine W_loop mixm (α := List Int) (fun xs => xs.length ≤ r * c ∧ (pk (V.drop xs.length) i).map (xs ++ ·) = pk V i ∧ ∀ x ∈ xs, 0 ≤ x ∧ x ≤ 1000020)
      (fun xs => [(0, vI r), (1, vI c), (2, vIs t), (3, vI b), (11, .sl 1 (V.map vIs)), (13, vI ((r * c : Nat) : Int)), (14, vI i), (15, .asl 1 xs.length), (16, vB true), (42, vI ((r * c : Nat) : Int)), (43, vI xs.length)]) (fun xs => [(1, .arr 1 (xs.map vI) false)]) (fun xs => r * c - xs.length) [] ⟨by simp, by simp, by simp⟩ ?_ fun xs hx => ?_
    · refine .of [(1, none)] [] rfl (by rw [hst]; rfl) ?_ ?_
      · simp only [ltSto, ltO2, ltO1, ltAs, ltA, ltC, ltCs, ltT, ltFr, ltS, wrOk, wrO, TL.get, hasFr, ↓reduceIte, Nat.reduceEqDiff, reduceCtorEq, Option.getD_some, Option.isSome_some, List.length_map, List.length_append, List.length_cons, List.length_nil, List.append_nil, List.mem_singleton, List.mem_cons, List.not_mem_nil, and_true, true_and, and_self, imp_self, forall_const, false_implies, implies_true, true_implies, or_false, Bool.false_eq_true, Bool.true_eq_false, ImXs_nil, true_or, or_true, false_or, false_and, and_false, List.map_nil]
      · simp only [ltSto, ltO2, ltO1, ltAs, ltA, ltC, ltCs, ltT, ltFr, ltS, wrOk, wrO, TL.get, hasFr, ↓reduceIte, Nat.reduceEqDiff, reduceCtorEq, Option.getD_some, Option.isSome_some, List.length_map, List.length_append, List.length_cons, List.length_nil, List.append_nil, List.mem_singleton, List.mem_cons, List.not_mem_nil, and_true, true_and, and_self, imp_self, forall_const, false_implies, implies_true, true_implies, or_false, Bool.false_eq_true, Bool.true_eq_false, ImXs_nil, true_or, or_true, false_or, false_and, and_false, htl]
        rfl
    obtain ⟨x1, x2, x3⟩ := hx
    simp only [tl, tl2, isCallR, entX, argFr, ret, retI, retB, intT, unT, endR, ressR, resR, tupT, bslR, boxR, lenAll, ↓reduceIte, Nat.reduceEqDiff, Nat.reduceAdd, Nat.reduceMul, Nat.reduceLT, Nat.reduceLeDiff, reduceCtorEq, Int.reduceLE, Int.reduceLT, ne_eq, Int.reduceEq, not_false_eq_true, decide_true, decide_false, Int.reduceToNat, tl3, Int.reduceBNe, Int.reduceBEq, decide_eq_true_eq, decide_eq_false_iff_not]
    refine ⟨fun h4 => ?_, fun h4 => ?_⟩
    · have h4 : xs.length < V.length := by omega
      have hw1 : IntKind.i64.wrap (((r * c : Nat) : Int) - 1) = ((r * c - 1 : Nat) : Int) := by rw [IntWalk.i64_in _ (by omega)]; omega
      have hw2 : IntKind.i64.wrap (((r * c - 1 : Nat) : Int) - (xs.length : Int)) = ((r * c - 1 - xs.length : Nat) : Int) := by rw [IntWalk.i64_in _ (by omega)]; omega
      have hw3 := shr_nat (x := i) (show r * c - 1 - xs.length ≤ 12 by omega)
      have hi2 : i / 2 ^ (r * c - 1 - xs.length) ≤ i := Nat.div_le_self _ _
      have hw4 := and_one (show i / 2 ^ (r * c - 1 - xs.length) ≤ 1000000 by omega)
      have hgv : (V.map vIs).getD xs.length .junk = vIs V[xs.length] := by
        rw [getD_get (by simpa using h4)]; simp
      simp only [tl, tl2, isCallR, entX, argFr, ret, retI, retB, intT, unT, endR, ressR, resR, tupT, bslR, boxR, lenAll, ↓reduceIte, Nat.reduceEqDiff, Nat.reduceAdd, Nat.reduceMul, Nat.reduceLT, Nat.reduceLeDiff, reduceCtorEq, Int.reduceLE, Int.reduceLT, ne_eq, Int.reduceEq, not_false_eq_true, decide_true, decide_false, Int.reduceToNat, tl3, Int.reduceBNe, Int.reduceBEq, hw1, hw2, hw3, hw4, Int.toNat_natCast, hgv, decide_eq_true_eq, decide_eq_false_iff_not]
      have hp := pk_drop (i := i) h4
      rw [show V.length - 1 - xs.length = r * c - 1 - xs.length by omega] at hp
      obtain ⟨k, hk⟩ : ∃ k, i / 2 ^ (r * c - 1 - xs.length) % 2 = k := ⟨_, rfl⟩
      rw [hk] at hp
      have hk2 : k < 2 := by omega
      rw [hk]
      refine ⟨by omega, by omega, fun h5 => ?_, fun h5 => ?_⟩
      · have h5 : V[xs.length].length ≤ k := by omega
        refine C2.im (r := vB true) (fun h => h.elim) (fun h => h.elim) (by rfl) ?_
        simp only [tl, tl2, isCallR, entX, argFr, ret, retI, retB, intT, unT, endR, ressR, resR, tupT, bslR, boxR, lenAll, ↓reduceIte, Nat.reduceEqDiff, Nat.reduceAdd, Nat.reduceMul, Nat.reduceLT, Nat.reduceLeDiff, reduceCtorEq, Int.reduceLE, Int.reduceLT, ne_eq, Int.reduceEq, not_false_eq_true, decide_true, decide_false, Int.reduceToNat, tl3, Int.reduceBNe, Int.reduceBEq]
        refine ⟨i + 1, ⟨by omega, next_none hi.2 fun x hx => ?_⟩, by omega, .of [] [] rfl (by rw [hst]; rfl) ?_ ?_⟩
        · exfalso
          rw [← x2, hp, List.getElem?_eq_none h5] at hx
          simp at hx
        · simp only [ltSto, ltO2, ltO1, ltAs, ltA, ltC, ltCs, ltT, ltFr, ltS, wrOk, wrO, TL.get, hasFr, ↓reduceIte, Nat.reduceEqDiff, reduceCtorEq, Option.getD_some, Option.isSome_some, List.length_map, List.length_append, List.length_cons, List.length_nil, List.append_nil, List.mem_singleton, List.mem_cons, List.not_mem_nil, and_true, true_and, and_self, imp_self, forall_const, false_implies, implies_true, true_implies, or_false, Bool.false_eq_true, Bool.true_eq_false, ImXs_nil, true_or, or_true, false_or, false_and, and_false]
        · simp only [ltSto, ltO2, ltO1, ltAs, ltA, ltC, ltCs, ltT, ltFr, ltS, wrOk, wrO, TL.get, hasFr, ↓reduceIte, Nat.reduceEqDiff, reduceCtorEq, Option.getD_some, Option.isSome_some, List.length_map, List.length_append, List.length_cons, List.length_nil, List.append_nil, List.mem_singleton, List.mem_cons, List.not_mem_nil, and_true, true_and, and_self, imp_self, forall_const, false_implies, implies_true, true_implies, or_false, Bool.false_eq_true, Bool.true_eq_false, ImXs_nil, true_or, or_true, false_or, false_and, and_false, htl]
          rw [IntWalk.i64_in _ (by omega)]
          rfl
      · have h5 : k < V[xs.length].length := by omega
        have hxb := (hVb _ (List.getElem_mem h4)).2 _ (List.getElem_mem h5)
        rw [List.getElem?_eq_getElem h5] at hp
        simp only [getD_ints h5]
        simp only [tl, tl2, isCallR, entX, argFr, ret, retI, retB, intT, unT, endR, ressR, resR, tupT, bslR, boxR, lenAll, ↓reduceIte, Nat.reduceEqDiff, Nat.reduceAdd, Nat.reduceMul, Nat.reduceLT, Nat.reduceLeDiff, reduceCtorEq, Int.reduceLE, Int.reduceLT, ne_eq, Int.reduceEq, not_false_eq_true, decide_true, decide_false, Int.reduceToNat, tl3, Int.reduceBNe, Int.reduceBEq]
        refine ⟨by omega, by omega, by omega, xs ++ [V[xs.length][k]], ⟨by simp; omega, ?_, fun x hx => ?_⟩, by simp; omega, .of [(1, some 1)] [] rfl (by rw [hst]; rfl) ?_ ?_⟩
        · rw [← x2, hp]
          simp only [List.length_append, List.length_cons, List.length_nil, Option.map_map]
          congr 1
          funext y
          simp
        · rcases List.mem_append.1 hx with hx | hx
          · exact x3 x hx
          · simp at hx; omega
        · simp only [ltSto, ltO2, ltO1, ltAs, ltA, ltC, ltCs, ltT, ltFr, ltS, wrOk, wrO, TL.get, hasFr, ↓reduceIte, Nat.reduceEqDiff, reduceCtorEq, Option.getD_some, Option.isSome_some, List.length_map, List.length_append, List.length_cons, List.length_nil, List.append_nil, List.mem_singleton, List.mem_cons, List.not_mem_nil, and_true, true_and, and_self, imp_self, forall_const, false_implies, implies_true, true_implies, or_false, Bool.false_eq_true, Bool.true_eq_false, ImXs_nil, true_or, or_true, false_or, false_and, and_false]
          have : List.map vI xs ++ [T.v (.int .i64 V[xs.length][k])] = (xs ++ [V[xs.length][k]]).map vI := by simp [vI]
          rw [this]
          exact ltXs_ints _
        · simp only [ltSto, ltO2, ltO1, ltAs, ltA, ltC, ltCs, ltT, ltFr, ltS, wrOk, wrO, TL.get, hasFr, ↓reduceIte, Nat.reduceEqDiff, reduceCtorEq, Option.getD_some, Option.isSome_some, List.length_map, List.length_append, List.length_cons, List.length_nil, List.append_nil, List.mem_singleton, List.mem_cons, List.not_mem_nil, and_true, true_and, and_self, imp_self, forall_const, false_implies, implies_true, true_implies, or_false, Bool.false_eq_true, Bool.true_eq_false, ImXs_nil, true_or, or_true, false_or, false_and, and_false, List.length_append, List.length_cons, List.length_nil]
          rw [IntWalk.i64_in _ (by omega)]
          rfl
    · have hlen : xs.length = r * c := by omega
      have hpk : pk V i = some xs := by
        rw [← x2, List.drop_of_length_le (by omega)]
        simp [pk]
      refine C2.lend [1] (fun _ => c25 r c t xs b (by omega) (by omega) (by omega) htl hlen (okT_of hn) (fun x hx => by have := x3 x hx; omega) (by omega)) (fun _ => ?_) (by rfl) (by rfl) ?_
      · simp only [ltSto, ltO2, ltO1, ltAs, ltA, ltC, ltCs, ltT, ltFr, ltS, wrOk, wrO, TL.get, hasFr, ↓reduceIte, Nat.reduceEqDiff, reduceCtorEq, Option.getD_some, Option.isSome_some, List.length_map, List.length_append, List.length_cons, List.length_nil, List.append_nil, List.mem_singleton, List.mem_cons, List.not_mem_nil, and_true, true_and, and_self, imp_self, forall_const, false_implies, implies_true, true_implies, or_false, Bool.false_eq_true, Bool.true_eq_false, ImXs_nil, true_or, or_true, false_or, false_and, and_false]
        exact ints_v _
      simp only [tl, tl2, isCallR, entX, argFr, ret, retI, retB, intT, unT, endR, ressR, resR, tupT, bslR, boxR, lenAll, ↓reduceIte, Nat.reduceEqDiff, Nat.reduceAdd, Nat.reduceMul, Nat.reduceLT, Nat.reduceLeDiff, reduceCtorEq, Int.reduceLE, Int.reduceLT, ne_eq, Int.reduceEq, not_false_eq_true, decide_true, decide_false, Int.reduceToNat, tl3, Int.reduceBNe, Int.reduceBEq]
      refine ⟨fun h5 => ?_, fun h5 => ⟨i + 1, ⟨by omega, next_none hi.2 fun x hx => ?_⟩, by omega, .of [] [] rfl (by rw [hst]; rfl) ?_ ?_⟩⟩
      · rw [found hi.2 h3 hpk h5]
        refine .of [] [1] rfl rfl trivial ?_
        simp only [ltSto, ltO2, ltO1, ltAs, ltA, ltC, ltCs, ltT, ltFr, ltS, wrOk, wrO, TL.get, hasFr, ↓reduceIte, Nat.reduceEqDiff, reduceCtorEq, Option.getD_some, Option.isSome_some, List.length_map, List.length_append, List.length_cons, List.length_nil, List.append_nil, List.mem_singleton, List.mem_cons, List.not_mem_nil, and_true, true_and, and_self, imp_self, forall_const, false_implies, implies_true, true_implies, or_false, Bool.false_eq_true, Bool.true_eq_false, ImXs_nil, true_or, or_true, false_or, false_and, and_false]
        exact ints_v _
      · rw [hpk] at hx
        injection hx with hx
        subst hx
        exact h5
      · simp only [ltSto, ltO2, ltO1, ltAs, ltA, ltC, ltCs, ltT, ltFr, ltS, wrOk, wrO, TL.get, hasFr, ↓reduceIte, Nat.reduceEqDiff, reduceCtorEq, Option.getD_some, Option.isSome_some, List.length_map, List.length_append, List.length_cons, List.length_nil, List.append_nil, List.mem_singleton, List.mem_cons, List.not_mem_nil, and_true, true_and, and_self, imp_self, forall_const, false_implies, implies_true, true_implies, or_false, Bool.false_eq_true, Bool.true_eq_false, ImXs_nil, true_or, or_true, false_or, false_and, and_false]
      · simp only [ltSto, ltO2, ltO1, ltAs, ltA, ltC, ltCs, ltT, ltFr, ltS, wrOk, wrO, TL.get, hasFr, ↓reduceIte, Nat.reduceEqDiff, reduceCtorEq, Option.getD_some, Option.isSome_some, List.length_map, List.length_append, List.length_cons, List.length_nil, List.append_nil, List.mem_singleton, List.mem_cons, List.not_mem_nil, and_true, true_and, and_self, imp_self, forall_const, false_implies, implies_true, true_implies, or_false, Bool.false_eq_true, Bool.true_eq_false, ImXs_nil, true_or, or_true, false_or, false_and, and_false, htl]
        rw [IntWalk.i64_in _ (by omega)]
        rfl
  · have h4 : i = M := by omega
    rw [← h4, hi.2]
    refine .of [] [] rfl rfl trivial ?_
    simp only [ltSto, ltO2, ltO1, ltAs, ltA, ltC, ltCs, ltT, ltFr, ltS, wrOk, wrO, TL.get, hasFr, ↓reduceIte, Nat.reduceEqDiff, reduceCtorEq, Option.getD_some, Option.isSome_some, List.length_map, List.length_append, List.length_cons, List.length_nil, List.append_nil, List.mem_singleton, List.mem_cons, List.not_mem_nil, and_true, true_and, and_self, imp_self, forall_const, false_implies, implies_true, true_implies, or_false, Bool.false_eq_true, Bool.true_eq_false, ImXs_nil, true_or, or_true, false_or, false_and, and_false]
end Go.Proofs

