import Derived.Test.YtnejebkdlofdoaaJ35
set_option linter.unusedSimpArgs false
set_option linter.unusedVariables false
namespace Go.Proofs
open Go Go.TL
/-! ltSto, ltO2, ltO1, ltAs, ltA, ltC, ltC0, ltC0s, ltCs, ltT, ltFr, ltS, wrOk, wrO, TL.get, hasFr, ↓reduceIte, Nat.reduceEqDiff, reduceCtorEq, Option.getD_some, Option.isSome_some, List.length_map, List.length_append, List.length_cons, List.length_nil, List.append_nil, List.mem_singleton, List.mem_cons, List.not_mem_nil, and_true, true_and, and_self, imp_self, forall_const, false_implies, implies_true, true_implies, or_false, Bool.false_eq_true, Bool.true_eq_false, ImXs_nil, true_or, or_true, false_or, false_and, and_false, rmK, rm1# both readers, plain -/
abbrev Pr (α : Type) := List UInt8 → Option (α × List UInt8)
abbrev Rr (α : Type) := RS → α × RS
def Agree {α : Type} (p : Pr α) (f : Rr α) : Prop := ∀ s : RS, (s.2 = true → (f s).2.2 = true) ∧ (s.2 = false → match p s.1 with | some (a, r) => f s = (a, (r, false)) | none => (f s).2.2 = true)
def bP {α β : Type} (p : Pr α) (k : α → Pr β) : Pr β := fun b => match p b with | some (a, r) => k a r | none => none
def bR {α β : Type} (f : Rr α) (k : α → Rr β) : Rr β := fun s => k (f s).1 (f s).2
def eP {α : Type} (a : α) : Pr α := fun b => some (a, b)
def eR {α : Type} (a : α) : Rr α := fun s => (a, s)
theorem agree_e {α : Type} (a : α) : Agree (eP a) (eR a) := fun s => ⟨fun h => h, fun h => by obtain ⟨b, f⟩ := s; cases h; rfl⟩
theorem agree_b {α β : Type} {p : Pr α} {f : Rr α} {k : α → Pr β} {g : α → Rr β} (h : Agree p f) (hk : ∀ a, Agree (k a) (g a)) : Agree (bP p k) (bR f g) := by
  intro s
  obtain ⟨h1, h2⟩ := h s
  refine ⟨fun e => (hk _ _).1 (h1 e), fun e => ?_⟩
  have h2 := h2 e
  unfold bP bR
  cases hp : p s.1 with
  | none =>
    rw [hp] at h2
    exact (hk _ _).1 h2
  | some q =>
    obtain ⟨a, r⟩ := q
    rw [hp] at h2
    dsimp only at h2 ⊢
    rw [h2]
    exact (hk a (r, false)).2 rfl
theorem agree_qN : Agree stN qN := by
  intro s
  obtain ⟨b, f⟩ := s
  refine ⟨fun h => ?_, fun h => ?_⟩
  · dsimp only at h; subst h; rfl
  · dsimp only at h; subst h
    unfold qN
    dsimp only
    rw [if_neg (by simp)]
    cases stN b with
    | none => rfl
    | some q => rfl
theorem agree_rN : Agree stN rN := by
  intro s
  obtain ⟨b, f⟩ := s
  unfold rN
  dsimp only
  refine ⟨fun h => ?_, fun h => ?_⟩
  · subst h; cases stN b <;> rfl
  · subst h; cases stN b <;> rfl
theorem agree_qT : Agree stT qT := by
  intro s
  obtain ⟨h1, h2⟩ := agree_qN s
  unfold qT stT
  refine ⟨fun h => ?_, fun h => ?_⟩
  · have h1 := h1 h
    generalize qN s = q at *
    obtain ⟨n, r⟩ := q
    dsimp only at h1 ⊢
    rw [if_pos h1]
    exact h1
  · have h2 := h2 h
    cases hp : stN s.1 with
    | none =>
      rw [hp] at h2
      generalize qN s = q at *
      obtain ⟨n, r⟩ := q
      dsimp only at h2 ⊢
      rw [if_pos h2]
      exact h2
    | some q =>
      obtain ⟨n, r⟩ := q
      rw [hp] at h2
      dsimp only at h2 ⊢
      rw [h2]
      dsimp only
      simp only [Bool.false_eq_true, reduceIte]
      by_cases hn : n > r.length
      · rw [if_pos hn, if_pos hn]
      · rw [if_neg hn, if_neg hn]
theorem agree_rT : Agree stT rT := by
  intro s
  obtain ⟨h1, h2⟩ := agree_rN s
  unfold rT stT
  refine ⟨fun h => ?_, fun h => ?_⟩
  · have h1 := h1 h
    generalize rN s = q at *
    obtain ⟨n, r⟩ := q
    dsimp only at h1 ⊢
    rw [if_pos (.inl h1)]
  · have h2 := h2 h
    cases hp : stN s.1 with
    | none =>
      rw [hp] at h2
      generalize rN s = q at *
      obtain ⟨n, r⟩ := q
      dsimp only at h2 ⊢
      rw [if_pos (.inl h2)]
    | some q =>
      obtain ⟨n, r⟩ := q
      rw [hp] at h2
      dsimp only at h2 ⊢
      rw [h2]
      dsimp only
      by_cases hn : n > r.length
      · rw [if_pos hn, if_pos (.inr hn)]
      · rw [if_neg hn, if_neg (by simp [hn])]
def sgP : Nat → Pr (List Sig)
  | 0 => eP []
  | k + 1 => bP (sgP k) fun l => bP stT fun t => bP stN fun m => eP (l ++ [⟨t, m⟩])
theorem sgR_eq (fN : Rr Int) (fT : Rr ByteArray) (k : Nat) : sgR fN fT (k + 1) = bR (sgR fN fT k) fun l => bR fT fun t => bR fN fun m => eR (l ++ [⟨t, m⟩]) := rfl
theorem agree_sg {fN : Rr Int} {fT : Rr ByteArray} (hN : Agree stN fN) (hT : Agree stT fT) : ∀ k, Agree (sgP k) (sgR fN fT k)
  | 0 => agree_e _
  | k + 1 => by
    rw [sgR_eq]
    exact agree_b (agree_sg hN hT k) fun _ => agree_b hT fun _ => agree_b hN fun _ => agree_e _
def hdP : Pr Out := bP stN fun n => bP stT fun p => bP stT fun r => bP stN fun t => bP stT fun x => bP stN fun s => eP ⟨n, p, r, t, x, s, []⟩
def hdR (fN : Rr Int) (fT : Rr ByteArray) : Rr Out := bR fN fun n => bR fT fun p => bR fT fun r => bR fN fun t => bR fT fun x => bR fN fun s => eR ⟨n, p, r, t, x, s, []⟩
theorem agree_hd {fN : Rr Int} {fT : Rr ByteArray} (hN : Agree stN fN) (hT : Agree stT fT) : Agree hdP (hdR fN fT) :=
  agree_b hN fun _ => agree_b hT fun _ => agree_b hT fun _ => agree_b hN fun _ => agree_b hT fun _ => agree_b hN fun _ => agree_e _
theorem dO_hd (fN : Rr Int) (fT : Rr ByteArray) (b : List UInt8) : dO fN fT b 6 = hdR fN fT (b, false) := by
  show dO6 fN fT b = _
  simp only [dO6, dO5, dO4, dO3, dO2, dO1, dO0, hdR, bR, eR]
/-- all of an output, and what is left -/
def allP : Pr Out := bP hdP fun x => bP stN fun n => if n > 2 then fun _ => none else bP (sgP n.toNat) fun l => eP { x with sigs := l }
def decP (b : List UInt8) : Option Out := match allP b with
  | some (x, r) => if r.length > 0 ∨ validO x = false then none else some x
  | none => none
abbrev decTT (b : List UInt8) : T := match decP b with
  | some x => .tup [outT x, vI 0]
  | none => .tup [outT zOut, vI 11]
theorem agree_qG : ∀ s : RS, (s.2 = true → (qG s).2.2 = true) ∧ (s.2 = false → match bP stN (fun n => if n > 2 then fun _ => none else sgP n.toNat) s.1 with | some (a, r) => qG s = (a, (r, false)) | none => (qG s).2.2 = true) := by
  intro s
  obtain ⟨h1, h2⟩ := agree_qN s
  unfold qG bP
  dsimp only
  refine ⟨fun h => ?_, fun h => ?_⟩
  · have h1 := h1 h
    refine (agree_sg agree_qN agree_qT _ _).1 ?_
    split
    · rfl
    · exact h1
  · have h2 := h2 h
    cases hp : stN s.1 with
    | none =>
      rw [hp] at h2
      dsimp only at h2 ⊢
      refine (agree_sg agree_qN agree_qT _ _).1 ?_
      split
      · rfl
      · exact h2
    | some q =>
      obtain ⟨n, r⟩ := q
      rw [hp] at h2
      dsimp only at h2 ⊢
      rw [h2]
      dsimp only
      by_cases hn : n > 2
      · rw [if_pos hn, if_pos hn]
        exact (agree_sg agree_qN agree_qT _ _).1 rfl
      · rw [if_neg hn, if_neg hn, Int.min_eq_left (by omega)]
        have h3 := (agree_sg agree_qN agree_qT n.toNat (r, false)).2 rfl
        dsimp only at h3
        revert h3
        cases sgP n.toNat r with
        | none => exact fun h => h
        | some q => exact fun h => h
theorem decT_eq (b : List UInt8) : decT b = decTT b := by
  have h := (agree_hd agree_qN agree_qT (b, false)).2 rfl
  unfold decT decTT qOK decP allP bP qD
  rw [dO_hd]
  cases hp : hdP b with
  | none =>
    rw [show ((b, false) : RS).1 = b from rfl, hp] at h
    have := (agree_qG _).1 h
    dsimp only at this ⊢
    rw [if_neg (by rw [this]; simp)]
  | some q =>
    obtain ⟨x, r⟩ := q
    rw [show ((b, false) : RS).1 = b from rfl, hp] at h
    dsimp only at h ⊢
    rw [h]
    have h2 := (agree_qG (r, false)).2 rfl
    unfold bP at h2
    dsimp only at h2 ⊢
    cases hn : stN r with
    | none =>
      rw [hn] at h2
      dsimp only at h2 ⊢
      rw [if_neg (by rw [h2]; simp)]
    | some q =>
      obtain ⟨n, r2⟩ := q
      rw [hn] at h2
      dsimp only at h2 ⊢
      by_cases hn2 : n > 2
      · rw [if_pos hn2] at h2 ⊢
        dsimp only at h2 ⊢
        rw [if_neg (by rw [h2]; simp)]
      · rw [if_neg hn2] at h2 ⊢
        cases hs : sgP n.toNat r2 with
        | none =>
          rw [hs] at h2
          dsimp only at h2 ⊢
          rw [if_neg (by rw [h2]; simp)]
        | some q =>
          obtain ⟨l, r3⟩ := q
          rw [hs] at h2
          dsimp only at h2 ⊢
          rw [h2]
          dsimp only [eP]
          by_cases hv : r3.length > 0 ∨ validO { x with sigs := l } = false
          · rw [if_pos hv, if_neg]
            rcases hv with hv | hv
            · simp; intro e; rw [e] at hv; simp at hv
            · rw [hv]; simp
          · rw [if_neg hv, if_pos]
            simp only [not_or, Bool.not_eq_false] at hv
            rw [hv.2]
            have : r3 = [] := List.eq_nil_of_length_eq_zero (by omega)
            subst this
            rfl
theorem decR_eq (b : List UInt8) : decR b = decTT b := by
  have h := (agree_hd agree_rN agree_rT (b, false)).2 rfl
  unfold decR decTT rOK decP allP bP rD
  rw [dO_hd]
  cases hp : hdP b with
  | none =>
    rw [show ((b, false) : RS).1 = b from rfl, hp] at h
    have h := (agree_rN _).1 h
    dsimp only at h ⊢
    rw [if_neg]
    rw [if_pos (by rw [h]; simp)]
    simp
  | some q =>
    obtain ⟨x, r⟩ := q
    rw [show ((b, false) : RS).1 = b from rfl, hp] at h
    dsimp only at h ⊢
    rw [h]
    have h2 := (agree_rN (r, false)).2 rfl
    dsimp only at h2 ⊢
    cases hn : stN r with
    | none =>
      rw [hn] at h2
      dsimp only at h2 ⊢
      rw [if_neg]
      rw [if_pos (by rw [h2]; simp)]
      simp
    | some q =>
      obtain ⟨n, r2⟩ := q
      rw [hn] at h2
      dsimp only at h2 ⊢
      rw [h2]
      dsimp only
      by_cases hn2 : n > 2
      · rw [if_pos hn2]
        simp [hn2]
      · rw [if_neg hn2]
        have h3 := (agree_sg agree_rN agree_rT n.toNat (r2, false)).2 rfl
        simp only [hn2, decide_false, Bool.or_self, Bool.false_eq_true, if_false, reduceIte]
        dsimp only at h3
        cases hs : sgP n.toNat r2 with
        | none =>
          rw [hs] at h3
          dsimp only at h3 ⊢
          rw [if_neg (by rw [h3]; simp)]
        | some q =>
          obtain ⟨l, r3⟩ := q
          rw [hs] at h3
          dsimp only at h3 ⊢
          simp only [h3, eP]
          by_cases hv : r3.length > 0 ∨ validO { x with sigs := l } = false
          · rw [if_pos hv, if_neg]
            rcases hv with hv | hv
            · simp; intro e; rw [e] at hv; simp at hv
            · rw [hv]; simp
          · rw [if_neg hv, if_pos]
            simp only [not_or, Bool.not_eq_false] at hv
            rw [hv.2]
            have : r3 = [] := List.eq_nil_of_length_eq_zero (by omega)
            subst this
            rfl
theorem decT_eq' (b : List UInt8) (hb : b.length < 1000000000) : Spc Try.prog F_queue_Decode [vL b] [] (decTT b) [] := by rw [← decT_eq]; exact c_queue_Decode b hb
theorem decR_eq' (b : List UInt8) (hb : b.length < 1000000000) : Spc Try.prog F_ref35_Decode [vL b] [] (decTT b) [] := by rw [← decR_eq]; exact c_ref35_Decode b hb

end Go.Proofs

