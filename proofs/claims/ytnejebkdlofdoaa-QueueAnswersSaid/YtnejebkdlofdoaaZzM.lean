/- Calls, by evaluation: objects that are lent, handed over, come back, are new. -/
import Derived.Test.YtnejebkdlofdoaaZzL
namespace Go.TL
set_option linter.unusedSimpArgs false
set_option linter.unusedVariables false

def wrO (st st1 st1' : Sto) (ρ1 ρ2 : Ren) (id k : Nat) (ys : List T) (fz : Bool) (r : Option (Option Nat)) : Prop := match r with
  | none => fz = true ∧ (match TL.get st id with | some (.arr k0 xs _) => k0 = k ∧ xs = ys | _ => False) ∧ (∀ p ∈ ρ1, p.2 ≠ some id)
  | some (some i') => ltO1 st1' ρ2 [] k ys fz i' (TL.get st1' i') ∧ (TL.get st id = none ∨ (TL.get ρ1 i' = some (some id) ∧ (TL.get st1 i').isSome = true))
  | some none => False
def wrOk (st st1 st1' : Sto) (ρ1 ρ2 : Ren) : List (Nat × Ob) → Prop
  | [] => True
  | (_, .dead) :: r => wrOk st st1 st1' ρ1 ρ2 r
  | (id, .arr k ys fz) :: r => wrO st st1 st1' ρ1 ρ2 id k ys fz (TL.get ρ2 id) ∧ wrOk st st1 st1' ρ1 ρ2 r
  | _ :: _ => False
def noA1s : List (Nat × Ob) → Ren → Bool
  | [], _ => true
  | (_, .dead) :: r, ρ => noA1s r ρ
  | (id, .arr _ ys _) :: r, ρ => ((rho ρ id).isNone || (flat ys).all noA1) && noA1s r ρ
  | _ :: _, _ => false
def fzOk (wr : Sto) : List Nat → Bool
  | [] => true
  | i :: r => (match TL.get wr i with | some (.arr _ _ true) => true | _ => false) && fzOk wr r

section
variable {P : Program} {st st1 st1' : Sto} {ρ1 ρ2 : Ren} {B : List Nat} {wr : List (Nat × Ob)}

theorem wrOk_get : ∀ {l : List (Nat × Ob)}, wrOk st st1 st1' ρ1 ρ2 l → ∀ {i k : Nat} {ys : List T} {fz : Bool}, TL.get l i = some (.arr k ys fz) → wrO st st1 st1' ρ1 ρ2 i k ys fz (TL.get ρ2 i)
  | [], _, i, k, ys, fz, h => by cases h
  | (j, .dead) :: r, hs, i, k, ys, fz, h => by
    simp only [TL.get] at h
    split at h
    · injection h with h; cases h
    · exact wrOk_get (l := r) hs h
  | (j, .arr k0 y0 f0) :: r, hs, i, k, ys, fz, h => by
    simp only [TL.get] at h
    split at h
    · rename_i hj; subst hj
      injection h with h; injection h with h1 h2 h3; subst h1 h2 h3
      exact hs.1
    · exact wrOk_get (l := r) hs.2 h

theorem wrOk_nm : ∀ {l : List (Nat × Ob)}, wrOk st st1 st1' ρ1 ρ2 l → ∀ {i : Nat} {es : Es}, TL.get l i = some (.mp es) → False
  | [], _, i, es, h => by cases h
  | (j, .dead) :: r, hs, i, es, h => by
    simp only [TL.get] at h
    split at h
    · injection h with h; cases h
    · exact wrOk_nm (l := r) hs h
  | (j, .arr k0 y0 f0) :: r, hs, i, es, h => by
    simp only [TL.get] at h
    split at h
    · injection h with h; cases h
    · exact wrOk_nm (l := r) hs.2 h
  | (j, .mp _) :: r, hs, i, es, h => hs.elim
  | (j, .full ..) :: r, hs, i, es, h => hs.elim
theorem wrOk_nf : ∀ {l : List (Nat × Ob)}, wrOk st st1 st1' ρ1 ρ2 l → ∀ {i a b : Nat} {g : Bool}, TL.get l i = some (.full a b g) → False
  | [], _, i, a, b, g, h => by cases h
  | (j, .dead) :: r, hs, i, a, b, g, h => by
    simp only [TL.get] at h
    split at h
    · injection h with h; cases h
    · exact wrOk_nf (l := r) hs h
  | (j, .arr k0 y0 f0) :: r, hs, i, a, b, g, h => by
    simp only [TL.get] at h
    split at h
    · injection h with h; cases h
    · exact wrOk_nf (l := r) hs.2 h
  | (j, .mp _) :: r, hs, i, a, b, g, h => hs.elim
  | (j, .full ..) :: r, hs, i, a, b, g, h => hs.elim

theorem noA1s_get : ∀ {l : List (Nat × Ob)} {ρ : Ren}, noA1s l ρ = true → ∀ {i k : Nat} {ys : List T} {fz : Bool}, TL.get l i = some (.arr k ys fz) → rho ρ i ≠ none → ∀ c ∈ flat ys, noA1 c = true
  | [], ρ, _, i, k, ys, fz, h => by cases h
  | (j, .dead) :: r, ρ, hs, i, k, ys, fz, h => by
    simp only [TL.get] at h
    split at h
    · injection h with h; cases h
    · exact noA1s_get (l := r) hs h
  | (j, .arr k0 y0 f0) :: r, ρ, hs, i, k, ys, fz, h => by
    simp only [noA1s, Bool.and_eq_true, Bool.or_eq_true] at hs
    simp only [TL.get] at h
    split at h
    · rename_i hj; subst hj
      injection h with h; injection h with h1 h2 h3; subst h1 h2 h3
      intro hn c hc
      rcases hs.1 with h1 | h1
      · rw [Option.isNone_iff_eq_none] at h1; exact absurd h1 hn
      · exact List.all_eq_true.1 h1 c hc
    · exact noA1s_get (l := r) hs.2 h

theorem fzOk_mem {wr : Sto} : ∀ {B : List Nat}, fzOk wr B = true → ∀ i ∈ B, ∃ k xs, TL.get wr i = some (.arr k xs true)
  | [], _, i, h => by simp at h
  | j :: r, h, i, hi => by
    simp only [fzOk, Bool.and_eq_true] at h
    rcases List.mem_cons.1 hi with rfl | hi
    · have h1 := h.1
      split at h1
      · rename_i k xs hg; exact ⟨k, xs, hg⟩
      · cases h1
    · exact fzOk_mem h.2 i hi

def allSome : Ren → Bool
  | [] => true
  | (_, some _) :: r => allSome r
  | _ => false
theorem allSome_get : ∀ {ρ : Ren}, allSome ρ = true → ∀ {i : Nat} {x : Option Nat}, TL.get ρ i = some x → ∃ j, x = some j
  | [], _, i, x, h => by cases h
  | (j, none) :: r, hs, i, x, h => by simp [allSome] at hs
  | (j, some y) :: r, hs, i, x, h => by
    simp only [TL.get] at h
    split at h
    · injection h with h; exact ⟨y, h.symm⟩
    · exact allSome_get (ρ := r) hs h
theorem rho_some {ρ : Ren} {i j : Nat} : rho ρ i = some j ↔ TL.get ρ i = some (some j) := by
  unfold rho
  cases h : TL.get ρ i with
  | none => simp
  | some x => cases x <;> simp
theorem rho_inj {st' : Sto} {ρ : Ren} (h : renOk st' ρ = true) {i1 i2 j : Nat} (h1 : rho ρ i1 = some j) (h2 : rho ρ i2 = some j) : i1 = i2 := by
  simp only [renOk, Bool.and_eq_true, decide_eq_true_eq] at h
  exact nodup_inj h.2 (get_mem (rho_some.1 h1)) (get_mem (rho_some.1 h2))
theorem contains_of {ρ : Ren} {i j : Nat} (h : rho ρ i = some j) : (ρ.map (·.2)).contains (some j) = true := by
  simp only [List.contains_eq_mem, decide_eq_true_eq, List.mem_map]
  exact ⟨_, get_mem (rho_some.1 h), rfl⟩

/-! ### objects within objects, lent -/
def ptw (R : T → T → Prop) : List T → List T → Prop
  | [], [] => True
  | x :: xs, y :: ys => R x y ∧ ptw R xs ys
  | _, _ => False
def ltD (st : Sto) (B : List Nat) : Nat → T → T → Prop
  | 0, x, y => x = y ∧ imT x = true
  | d + 1, x, y => match y with
    | .sl k ys => match x with
      | .asl i n => i ∈ B ∧ (match TL.get st i with
        | some (.arr k' xs _) => k' = k ∧ xs.length = n ∧ ptw (fun a b => a.cells.length = k ∧ b.cells.length = k ∧ imL b.cells = true ∧ ptw (ltD st B d) a.cells b.cells) xs ys
        | _ => False)
      | .v (.slice none 0 0) => ys = []
      | x => x = .sl k ys
    | y => x = y ∧ imT x = true
def ltAD (st : Sto) (B : List Nat) (x y : T) : Prop :=
  match y with
  | .agg ys => match x with | .agg xs => ptw (ltD st B 3) xs ys | _ => False
  | y => ltD st B 3 x y
theorem ptw_get {R : T → T → Prop} : ∀ {xs ys : List T}, ptw R xs ys → xs.length = ys.length ∧ ∀ (j : Nat) (c c' : T), xs[j]? = some c → ys[j]? = some c' → R c c'
  | [], [], _ => ⟨rfl, fun j c c' h => by simp at h⟩
  | [], _ :: _, h => h.elim
  | _ :: _, [], h => h.elim
  | x :: xs, y :: ys, h => by
    obtain ⟨h1, h2⟩ := h
    obtain ⟨h3, h4⟩ := ptw_get h2
    refine ⟨by simp [h3], fun j c c' hc hc' => ?_⟩
    cases j with
    | zero => simp at hc hc'; subst hc hc'; exact h1
    | succ j => exact h4 j c c' (by simpa using hc) (by simpa using hc')
theorem ptw_flat {R : T → T → Prop} {k : Nat} : ∀ {xs ys : List T}, ptw (fun a b => a.cells.length = k ∧ b.cells.length = k ∧ imL b.cells = true ∧ ptw R a.cells b.cells) xs ys → ptw R (flat xs) (flat ys) ∧ (∀ y ∈ ys, y.cells.length = k) ∧ ∀ c ∈ flat ys, imT c = true
  | [], [], _ => ⟨trivial, by simp, by simp [flat]⟩
  | [], _ :: _, h => h.elim
  | _ :: _, [], h => h.elim
  | x :: xs, y :: ys, h => by
    obtain ⟨⟨h1, h2, h3, h4⟩, h5⟩ := h
    obtain ⟨q1, q2, q3⟩ := ptw_flat h5
    have app : ∀ {a b c d : List T}, ptw R a b → ptw R c d → ptw R (a ++ c) (b ++ d) := by
      intro a
      induction a with
      | nil => intro b c d h h'; cases b with | nil => exact h' | cons _ _ => exact h.elim
      | cons x a ih => intro b c d h h'; cases b with | nil => exact h.elim | cons _ _ => exact ⟨h.1, ih h.2 h'⟩
    refine ⟨by simp only [flat, List.flatMap_cons]; exact app h4 q1, ?_, ?_⟩
    · intro z hz
      rcases List.mem_cons.1 hz with rfl | hz
      · exact h2
      · exact q2 z hz
    · intro c hc
      simp only [flat, List.flatMap_cons, List.mem_append] at hc
      rcases hc with hc | hc
      · exact imL_mem h3 c hc
      · exact q3 c hc
theorem ltD_sound {st : Sto} {B : List Nat} {d : Nat → Prop} {ρ : Nat → Option Nat} : ∀ {n : Nat} {x y : T}, ltD st B n x y → Lt st d ρ B x y
  | 0, x, y, h => by obtain ⟨rfl, h⟩ := h; exact .im _ h
  | n + 1, x, y, h => by
    unfold ltD at h
    split at h
    · rename_i k ys
      split at h
      · rename_i i m
        obtain ⟨h1, h2⟩ := h
        split at h2
        · rename_i k' xs fz hg
          obtain ⟨rfl, rfl, h3⟩ := h2
          obtain ⟨q1, q2, q3⟩ := ptw_flat h3
          exact .shut _ _ _ _ _ fz h1 hg rfl (ptw_get h3).1.symm q2 (fun j c c' hc hc' => ltD_sound ((ptw_get q1).2 j c c' hc hc')) q3
        · exact h2.elim
      · subst h; exact .nil k
      · subst h; exact .im _ rfl
    · obtain ⟨rfl, h⟩ := h; exact .im _ h
theorem ltAD_sound {st : Sto} {B : List Nat} {d : Nat → Prop} {ρ : Nat → Option Nat} {x y : T} (h : ltAD st B x y) : Lt st d ρ B x y := by
  unfold ltAD at h
  split at h
  · split at h
    · obtain ⟨h1, h2⟩ := ptw_get h
      exact .agg _ _ h1 fun j c c' hc hc' => ltD_sound (h2 j c c' hc hc')
    · exact h.elim
  · exact ltD_sound h
/-- a contract that fits, by evaluation -/
theorem CallP.ofL {fid : FuncId} {caps xs ts' : List T} {r val : T} (ρ1 ρ2 : Ren) (B : List Nat) (wr : List (Nat × Ob)) (hs : Spc P fid ts' st1 r st1')
    (hes : (xs ++ caps).length = ts'.length ∧ ∀ (j : Nat) (c c' : T), (xs ++ caps)[j]? = some c → ts'[j]? = some c' → Lt st (fun i => TL.get st1 i ≠ none) (rho ρ1) B c c') (h1 : renOk st1 ρ1 = true) (ho : ltSto st ρ1 B st1) (hB : (B.all fun i => !(ρ1.map (·.2)).contains (some i)) = true)
    (hk : (ρ1.all fun p => match p.2 with | some i => (TL.get wr i).isSome | none => true) = true)
    (hw : wrOk st st1 st1' ρ1 ρ2 wr) (h2 : renOk wr ρ2 = true) (h3 : allSome ρ2 = true) (hv : ltT st1' ρ2 [] r val)
    (hf : fzOk (wr ++ st) B = true ∨ (noA2 val = true ∧ noA1s wr ρ2 = true)) : CallP P st (.clo fid caps) xs val wr (B ++ wr.map (·.1)) := by
  have d1 : ∀ i x, TL.get ρ1 i = some x → TL.get st1 i ≠ none := fun _ _ h => ren_has h1 h
  have d2 : ∀ i x, TL.get ρ2 i = some x → TL.get wr i ≠ none ∧ rho ρ2 i ≠ none := fun i x h => ⟨ren_has h2 h, by
    obtain ⟨j, rfl⟩ := allSome_get h3 h
    rw [rho_some.2 h]; simp⟩
  refine .inl ⟨fid, caps, ts', st1, st1', r, rho ρ1, rho ρ2, B, rfl, hs, ?_⟩
  refine ⟨hes.1, hes.2, (lesOf (e := { S := fun _ => False, base := 0, hnd := fun _ => False, w0 := default, n := 1, st0 := [] }) (fr := []) (fr' := []) h1 rfl ho trivial).o, fun id hid => ⟨by simp [hid], fun id' hd hr => ?_⟩, fun id' id hd hr => ?_, fun id ob hg => ?_, fun i1 i2 id' _ _ g1 g2 => rho_inj h2 g1 g2, ltT_sound d2 hv, ?_⟩
  · have h5 := List.all_eq_true.1 hB id hid
    rw [contains_of hr] at h5
    simp at h5
  · have h5 := List.all_eq_true.1 hk _ (get_mem (rho_some.1 hr))
    intro hn
    simp [hn] at h5
  · refine ⟨by simp only [List.mem_append, List.mem_map]; exact .inr ⟨_, get_mem hg, rfl⟩, ?_⟩
    cases ob with
    | dead => exact .inl rfl
    | mp es => exact (wrOk_nm hw hg).elim
    | full i n g => exact (wrOk_nf hw hg).elim
    | arr k ys fz =>
      have h5 := wrOk_get hw hg
      unfold wrO at h5
      split at h5
      · rename_i h6
        obtain ⟨rfl, h7, h8⟩ := h5
        split at h7
        · rename_i k0 x0 f0 hg0
          obtain ⟨rfl, rfl⟩ := h7
          refine .inr (.inl ⟨_, _, f0, rfl, hg0, by simp [rho, h6], fun id' hd hr => ?_⟩)
          exact h8 _ (get_mem (rho_some.1 hr)) rfl
        · exact h7.elim
      · rename_i i' h6
        obtain ⟨h7, h8⟩ := h5
        unfold ltO1 at h7
        split at h7
        · rename_i k0 xs f0 hg0
          obtain ⟨rfl, h9, h10, h11⟩ := h7
          obtain ⟨h12, h13⟩ := ltXs_flat h10 d2
          refine .inr (.inr ⟨k0, ys, fz, i', xs, f0, rfl, rho_some.2 h6, hg0, h10.1, h9, h12, h13, ?_⟩)
          rcases h8 with h8 | ⟨h8, h14⟩
          · exact .inl h8
          · refine .inr ⟨rho_some.2 h8, ?_⟩
            intro hn; simp [hn] at h14
        · exact h7.elim
      · exact h5.elim
  · rcases hf with hf | ⟨hf, hg⟩
    · exact .inl (fzOk_mem hf)
    · exact .inr ⟨hf, fun id k xs fz hw0 hr => noA1s_get hg hw0 hr⟩

theorem CallP.of {fid : FuncId} {caps xs ts' : List T} {r val : T} (ρ1 ρ2 : Ren) (B : List Nat) (wr : List (Nat × Ob)) (hs : Spc P fid ts' st1 r st1')
    (ha : ltAs st ρ1 B (xs ++ caps) ts') (h1 : renOk st1 ρ1 = true) (ho : ltSto st ρ1 B st1) (hB : (B.all fun i => !(ρ1.map (·.2)).contains (some i)) = true)
    (hk : (ρ1.all fun p => match p.2 with | some i => (TL.get wr i).isSome | none => true) = true)
    (hw : wrOk st st1 st1' ρ1 ρ2 wr) (h2 : renOk wr ρ2 = true) (h3 : allSome ρ2 = true) (hv : ltT st1' ρ2 [] r val)
    (hf : fzOk (wr ++ st) B = true ∨ (noA2 val = true ∧ noA1s wr ρ2 = true)) : CallP P st (.clo fid caps) xs val wr (B ++ wr.map (·.1)) :=
  .ofL ρ1 ρ2 B wr hs (ltAs_sound (fun _ _ h => ren_has h1 h) ha) h1 ho hB hk hw h2 h3 hv hf
theorem ltC_im {st : Sto} {ρ : Ren} {B : List Nat} {x : T} (h : imT x = true) : ltC st ρ B x x := by
  exact ltC_im0 h
theorem ltCs_im {st : Sto} {ρ : Ren} {B : List Nat} : ∀ {l : List T}, imL l = true → ltCs st ρ B l l
  | [], _ => trivial
  | c :: r, h => by
    simp only [imL, Bool.and_eq_true] at h
    exact ⟨ltC_im h.1, ltCs_im h.2⟩
theorem ltA_im {st : Sto} {ρ : Ren} {B : List Nat} {x : T} (h : imA x = true) : ltA st ρ B x x := by
  cases x with
  | agg cs => exact ltCs_im h
  | clo f cs => exact ⟨rfl, ltCs_im h⟩
  | tup cs => simp [imA, imT, imT0] at h
  | junk => trivial
  | v a => exact ltC_im (st := st) (ρ := ρ) (B := B) (x := .v a) h
  | sl k xs => exact ltC_im (st := st) (ρ := ρ) (B := B) (x := .sl k xs) h
  | ptr a b c d => exact ltC_im (st := st) (ρ := ρ) (B := B) (x := .ptr a b c d) h
  | ip cs => exact ltC_im (st := st) (ρ := ρ) (B := B) (x := .ip cs) h
  | asl a b => exact ltC_im (st := st) (ρ := ρ) (B := B) (x := .asl a b) h
  | ub a b => exact ltC_im (st := st) (ρ := ρ) (B := B) (x := .ub a b) h
  | vw a b c d => exact ltC_im (st := st) (ρ := ρ) (B := B) (x := .vw a b c d) h
  | mp a => exact ltC_im (st := st) (ρ := ρ) (B := B) (x := .mp a) h
theorem ltAs_im {st : Sto} {ρ : Ren} {B : List Nat} : ∀ {l : List T}, imAL l = true → ltAs st ρ B l l
  | [], _ => trivial
  | c :: r, h => by
    simp only [imAL, Bool.and_eq_true] at h
    exact ⟨ltA_im h.1, ltAs_im h.2⟩
theorem ltT_im {st : Sto} {ρ : Ren} {B : List Nat} {x : T} (h : imTup x = true) : ltT st ρ B x x := by
  cases x with
  | tup cs => exact ltAs_im h
  | agg cs => exact ltA_im (st := st) (ρ := ρ) (B := B) (x := .agg cs) h
  | clo f cs => exact ltA_im (st := st) (ρ := ρ) (B := B) (x := .clo f cs) h
  | junk => trivial
  | v a => exact ltA_im (st := st) (ρ := ρ) (B := B) (x := .v a) h
  | sl k xs => exact ltA_im (st := st) (ρ := ρ) (B := B) (x := .sl k xs) h
  | ptr a b c d => exact ltA_im (st := st) (ρ := ρ) (B := B) (x := .ptr a b c d) h
  | ip cs => exact ltA_im (st := st) (ρ := ρ) (B := B) (x := .ip cs) h
  | asl a b => exact ltA_im (st := st) (ρ := ρ) (B := B) (x := .asl a b) h
  | ub a b => exact ltA_im (st := st) (ρ := ρ) (B := B) (x := .ub a b) h
  | vw a b c d => exact ltA_im (st := st) (ρ := ρ) (B := B) (x := .vw a b c d) h
  | mp a => exact ltA_im (st := st) (ρ := ρ) (B := B) (x := .mp a) h
variable {e : Env} {kss : List (Nat × List Nat)} {Q : Ex → St → Prop} {K : List KF} {rows : Option (List Nat)} {ks : List Nat} {nid : Nat} {ops : List ROp} {F : XF} {acc : Acc}
theorem C1.of {fid : FuncId} {caps xs ts' : List T} {r val : T} {d : Option Nat} (ρ1 ρ2 : Ren) (B : List Nat) (wr : List (Nat × Ob)) (hs : Spc P fid ts' st1 r st1')
    (ha : ltAs st ρ1 B (xs ++ caps) ts') (h1 : renOk st1 ρ1 = true) (ho : ltSto st ρ1 B st1) (hB : (B.all fun i => !(ρ1.map (·.2)).contains (some i)) = true)
    (hk : (ρ1.all fun p => match p.2 with | some i => (TL.get wr i).isSome | none => true) = true)
    (hw : wrOk st st1 st1' ρ1 ρ2 wr) (h2 : renOk wr ρ2 = true) (h3 : allSome ρ2 = true) (hv : ltT st1' ρ2 [] r val)
    (hf : fzOk (wr ++ st) B = true ∨ (noA2 val = true ∧ noA1s wr ρ2 = true))
    (h : R P e kss Q rows ks K nid ops (putX F d (.p val)) (stUp st wr) (acc ++ [(B ++ wr.map (·.1), wr.map (·.1))])) : C1 P e kss Q rows ks K (.clo fid caps) xs d nid ops F st acc :=
  ⟨val, wr, _, .of ρ1 ρ2 B wr hs ha h1 ho hB hk hw h2 h3 hv hf, h⟩
/-- a call under a guard, that changes nothing -/
theorem C2.of {L : List (Nat × Bool)} {c : Prop} {fid : FuncId} {caps xs ts' : List T} {r val : T} {d : Option Nat} (ρ1 : Ren) (B : List Nat) (hs : c → Spc P fid ts' st1 r st1')
    (ha : c → ltAs st ρ1 B (xs ++ caps) ts') (h1 : renOk st1 ρ1 = true) (ho : c → ltSto st ρ1 B st1) (hB : (B.all fun i => !(ρ1.map (·.2)).contains (some i)) = true)
    (hk : (ρ1.all fun p => match p.2 with | some _ => false | none => true) = true) (hv : c → ltT st1' [] [] r val)
    (hf : c → fzOk st B = true ∨ noA2 val = true)
    (h : R P e kss Q rows ks K nid ops (putX F d (.g L c val)) st (acc ++ [(B ++ [], [])])) : C2 P e kss Q rows ks K L c (.clo fid caps) xs d nid ops F st acc :=
  ⟨val, [], _, fun hc => .of ρ1 [] B [] (hs hc) (ha hc) h1 (ho hc) hB (List.all_eq_true.2 fun p hp => by
    have := List.all_eq_true.1 hk p hp
    split <;> simp_all) trivial rfl rfl (hv hc) (by rcases hf hc with h | h; exact .inl h; exact .inr ⟨h, rfl⟩), .inl ⟨rfl, h⟩⟩
/-- objects are lent, for a plain answer -/
theorem C1.lend {fid : FuncId} {caps xs ts' : List T} {r : T} {d : Option Nat} (B : List Nat) (hs : Spc P fid ts' [] r [])
    (ha : ltAs st [] B (xs ++ caps) ts') (h2 : imTup r = true) (h3 : noA2 r = true)
    (h : R P e kss Q rows ks K nid ops (putX F d (.p r)) st (acc ++ [(B ++ [], [])])) : C1 P e kss Q rows ks K (.clo fid caps) xs d nid ops F st acc :=
  .of [] [] B [] hs ha rfl trivial (by simp) rfl trivial rfl rfl (ltT_im h2) (.inr ⟨h3, rfl⟩) h
theorem C2.lend {L : List (Nat × Bool)} {c : Prop} {fid : FuncId} {caps xs ts' : List T} {r : T} {d : Option Nat} (B : List Nat) (hs : c → Spc P fid ts' [] r [])
    (ha : c → ltAs st [] B (xs ++ caps) ts') (h2 : imTup r = true) (h3 : noA2 r = true)
    (h : R P e kss Q rows ks K nid ops (putX F d (.g L c r)) st (acc ++ [(B ++ [], [])])) : C2 P e kss Q rows ks K L c (.clo fid caps) xs d nid ops F st acc :=
  .of [] B hs ha rfl (fun _ => trivial) (by simp) rfl (fun _ => ltT_im h2) (fun _ => .inr h3) h
theorem ptwA {st : Sto} {B : List Nat} {d : Nat → Prop} {ρ : Nat → Option Nat} {xs ys : List T} (h : ptw (ltAD st B) xs ys) : xs.length = ys.length ∧ ∀ (j : Nat) (c c' : T), xs[j]? = some c → ys[j]? = some c' → Lt st d ρ B c c' :=
  ⟨(ptw_get h).1, fun j c c' hc hc' => ltAD_sound ((ptw_get h).2 j c c' hc hc')⟩
/-- objects within objects are lent -/
theorem C1.lendD {fid : FuncId} {caps xs ts' : List T} {r : T} {d : Option Nat} (B : List Nat) (hs : Spc P fid ts' [] r [])
    (ha : ptw (ltAD st B) (xs ++ caps) ts') (h2 : imTup r = true) (h3 : noA2 r = true)
    (h : R P e kss Q rows ks K nid ops (putX F d (.p r)) (stUp st []) (acc ++ [(B ++ ([] : List (Nat × Ob)).map (·.1), ([] : List (Nat × Ob)).map (·.1))])) : C1 P e kss Q rows ks K (.clo fid caps) xs d nid ops F st acc :=
  ⟨r, [], _, .ofL [] [] B [] hs (ptwA ha) rfl trivial (by simp) rfl trivial rfl rfl (ltT_im h2) (.inr ⟨h3, rfl⟩), h⟩
theorem C2.lendD {L : List (Nat × Bool)} {c : Prop} {fid : FuncId} {caps xs ts' : List T} {r : T} {d : Option Nat} (B : List Nat) (hs : c → Spc P fid ts' [] r [])
    (ha : c → ptw (ltAD st B) (xs ++ caps) ts') (h2 : imTup r = true) (h3 : noA2 r = true)
    (h : R P e kss Q rows ks K nid ops (putX F d (.g L c r)) st (acc ++ [(B ++ [], [])])) : C2 P e kss Q rows ks K L c (.clo fid caps) xs d nid ops F st acc :=
  ⟨r, [], _, fun hc => .ofL [] [] B [] (hs hc) (ptwA (ha hc)) rfl trivial (by simp) rfl trivial rfl rfl (ltT_im h2) (.inr ⟨h3, rfl⟩), .inl ⟨rfl, h⟩⟩
end
end Go.TL
