/- 'Less is known', by evaluation. -/
import Derived.Test.YtnejebkdlofdoaaZzV
namespace Go.TL
set_option linter.unusedSimpArgs false
set_option linter.unusedVariables false

/-- from new objects to old ones (none: an empty one that is new) -/
abbrev Ren := List (Nat × Option Nat)
def rho (ρ : Ren) (i : Nat) : Option Nat := match TL.get ρ i with | some (some j) => some j | _ => none

/-- cells that lean on nothing -/
def ImXs (k : Nat) (xs : List T) : Prop := ∀ x ∈ xs, x.cells.length = k ∧ imL x.cells = true

def ltS (o : Option Ob) (k n : Nat) (ys : List T) : Prop := match o with
  | some (.arr k' xs _) => k' = k ∧ xs.length = n ∧ ys = xs ∧ ImXs k xs
  | _ => False

def ltV (o : Option Ob) (k n lo len : Nat) (ys : List T) : Prop := match o with
  | some (.arr k' xs _) => k' = k ∧ xs.length = n ∧ ys = (xs.drop lo).take len ∧ lo + len ≤ n ∧ ImXs k xs
  | _ => False

def ltP (o : Option Ob) (n i j : Nat) (cs : List T) : Prop := match o with
  | some (.arr k xs _) => xs.length = n ∧ i < n ∧ cs = (xs.getD i .junk).cells.drop j ∧ ImXs k xs
  | _ => False

/-- cells but closures -/
def ltC0 (st : Sto) (ρ : Ren) (B : List Nat) (x y : T) : Prop :=
  match y with
  | .junk => True
  | .asl i' n' => match x with
    | .asl i n => TL.get ρ i' = some (some i) ∧ n = n'
    | .v (.slice none 0 0) => TL.get ρ i' = some none ∧ n' = 0
    | _ => False
  | .ptr i' n' a' b' => match x with
    | .ptr i n a b => TL.get ρ i' = some (some i) ∧ n = n' ∧ a = a' ∧ b = b'
    | _ => False
  | .sl k ys => match x with
    | .asl i n => i ∈ B ∧ ltS (TL.get st i) k n ys
    | .vw i n lo len => i ∈ B ∧ ltV (TL.get st i) k n lo len ys
    | .v (.slice none 0 0) => ys = []
    | x => x = .sl k ys
  | .ip cs => match x with
    | .ptr i n a b => i ∈ B ∧ ltP (TL.get st i) n a b cs
    | x => x = .ip cs
  | .agg _ => False
  | .clo _ _ => False
  | .tup _ => False
  | .vw i' n' lo' len' => match x with
    | .vw i n lo len => TL.get ρ i' = some (some i) ∧ n = n' ∧ lo = lo' ∧ len = len'
    | .asl i n => TL.get ρ i' = some (some i) ∧ n = n' ∧ lo' = 0 ∧ len' = n'
    | _ => False
  | .mp i' => match x with
    | .mp i => TL.get ρ i' = some (some i)
    | _ => False
  | y => x = y

def ltC0s (st : Sto) (ρ : Ren) (B : List Nat) : List T → List T → Prop
  | [], [] => True
  | x :: xs, y :: ys => ltC0 st ρ B x y ∧ ltC0s st ρ B xs ys
  | _, _ => False
def ltC (st : Sto) (ρ : Ren) (B : List Nat) (x y : T) : Prop :=
  match y with
  | .clo f ys => match x with | .clo g xs => f = g ∧ ltC0s st ρ B xs ys | _ => False
  | y => ltC0 st ρ B x y
def ltCs (st : Sto) (ρ : Ren) (B : List Nat) : List T → List T → Prop
  | [], [] => True
  | x :: xs, y :: ys => ltC st ρ B x y ∧ ltCs st ρ B xs ys
  | _, _ => False

/-- values -/
def ltA (st : Sto) (ρ : Ren) (B : List Nat) (x y : T) : Prop :=
  match y with
  | .agg ys => match x with | .agg xs => ltCs st ρ B xs ys | _ => False
  | .clo f ys => match x with | .clo g xs => f = g ∧ ltCs st ρ B xs ys | _ => False
  | y => ltC st ρ B x y
def ltAs (st : Sto) (ρ : Ren) (B : List Nat) : List T → List T → Prop
  | [], [] => True
  | x :: xs, y :: ys => ltA st ρ B x y ∧ ltAs st ρ B xs ys
  | _, _ => False
def ltT (st : Sto) (ρ : Ren) (B : List Nat) (x y : T) : Prop :=
  match y with
  | .tup ys => match x with | .tup xs => ltAs st ρ B xs ys | _ => False
  | y => ltA st ρ B x y

/-- contents -/
def ltXs (st : Sto) (ρ : Ren) (B : List Nat) (k : Nat) (xs ys : List T) : Prop := xs.length = ys.length ∧ ∀ (i : Nat) (x y : T), xs[i]? = some x → ys[i]? = some y → x.cells.length = k ∧ y.cells.length = k ∧ ltCs st ρ B x.cells y.cells

def ltO1 (st : Sto) (ρ : Ren) (B : List Nat) (k : Nat) (ys : List T) (fz' : Bool) (i : Nat) (o : Option Ob) : Prop := match o with
  | some (.arr k0 xs fz) => k0 = k ∧ (fz = true → fz' = true) ∧ ltXs st ρ B k xs ys ∧ (i ∈ B → fz' = true)
  | _ => False
def ltO2 (st : Sto) (ρ : Ren) (B : List Nat) (k : Nat) (ys : List T) (fz' : Bool) (r : Option (Option Nat)) : Prop := match r with
  | some none => ys = []
  | some (some i) => ltO1 st ρ B k ys fz' i (TL.get st i)
  | none => False
def ltM (es : Es) (o : Option Ob) : Prop := match o with | some (.mp es') => es' = es | _ => False
def ltM2 (st : Sto) (es : Es) (r : Option (Option Nat)) : Prop := match r with
  | some (some i) => ltM es (TL.get st i)
  | _ => False
def ltSto (st : Sto) (ρ : Ren) (B : List Nat) : Sto → Prop
  | [] => True
  | (i, .dead) :: r => ltSto st ρ B r
  | (i, .arr k ys fz') :: r => ltO2 st ρ B k ys fz' (TL.get ρ i) ∧ ltSto st ρ B r
  | (i, .mp es) :: r => ltM2 st es (TL.get ρ i) ∧ ltSto st ρ B r
  | (_, .full ..) :: _ => False
def ltFr (st : Sto) (ρ : Ren) (B : List Nat) (fr : List (Nat × T)) : List (Nat × T) → Prop
  | [] => True
  | (t, y) :: r => ltT st ρ B ((TL.get fr t).getD .junk) y ∧ ltFr st ρ B fr r

def renOk (st' : Sto) (ρ : Ren) : Bool := (ρ.all fun p => (TL.get st' p.1).isSome) && decide (ρ.filterMap (·.2)).Nodup
/-- the objects at the entry stay what they are -/
def hndOk (st' : Sto) (ρ : Ren) : Sto → Bool
  | [] => true
  | (i, _) :: r => (TL.get st' i).isSome && (TL.get ρ i == some (some i)) && hndOk st' ρ r

section
variable {st st' : Sto} {ρ : Ren} {B : List Nat} {d : Nat → Prop}

theorem get_mem {α : Type} {l : List (Nat × α)} {i : Nat} {x : α} (h : TL.get l i = some x) : (i, x) ∈ l := by
  induction l with
  | nil => cases h
  | cons p r ih =>
    obtain ⟨j, y⟩ := p
    simp only [TL.get] at h
    split at h
    · rename_i hj; subst hj; injection h with h; subst h; simp
    · exact List.mem_cons_of_mem _ (ih h)

theorem ren_has (h : renOk st' ρ = true) {i : Nat} {x : Option Nat} (hi : TL.get ρ i = some x) : TL.get st' i ≠ none := by
  simp only [renOk, Bool.and_eq_true] at h
  have := List.all_eq_true.1 h.1 (i, x) (get_mem hi)
  intro hn
  simp [hn] at this

theorem nodup_inj : ∀ {ρ : Ren} {i1 i2 j : Nat}, (ρ.filterMap (·.2)).Nodup → (i1, some j) ∈ ρ → (i2, some j) ∈ ρ → i1 = i2
  | [], _, _, _, _, h, _ => by cases h
  | (i, x) :: r, i1, i2, j, hn, h1, h2 => by
    cases x with
    | none =>
      simp only [List.filterMap_cons] at hn
      simp only [List.mem_cons, Prod.mk.injEq, reduceCtorEq, and_false, false_or] at h1 h2
      exact nodup_inj hn h1 h2
    | some y =>
      simp only [List.filterMap_cons, List.nodup_cons, List.mem_filterMap, not_exists, not_and] at hn
      simp only [List.mem_cons, Prod.mk.injEq, Option.some.injEq] at h1 h2
      rcases h1 with ⟨rfl, rfl⟩ | h1
      · rcases h2 with ⟨rfl, _⟩ | h2
        · rfl
        · exact absurd rfl (hn.1 _ h2)
      · rcases h2 with ⟨rfl, rfl⟩ | h2
        · exact absurd rfl (hn.1 _ h1)
        · exact nodup_inj hn.2 h1 h2

theorem imXs_flat {k : Nat} {xs : List T} (h : ImXs k xs) : (∀ x ∈ xs, x.cells.length = k) ∧ ∀ c ∈ flat xs, imT c = true := by
  refine ⟨fun x hx => (h x hx).1, fun c hc => ?_⟩
  simp only [flat, List.mem_flatMap] at hc
  obtain ⟨x, hx, hc⟩ := hc
  exact imL_mem (h x hx).2 c hc

theorem ltC0_sound (hd : ∀ i x, TL.get ρ i = some x → d i) {x y : T} (h : ltC0 st ρ B x y) : Lt st d (rho ρ) B x y := by
  unfold ltC0 at h
  split at h
  · exact .junk x
  · rename_i i' n'
    split at h
    · obtain ⟨h1, rfl⟩ := h
      exact .asl _ _ _ (by simp [rho, h1]) (hd _ _ h1)
    · obtain ⟨h1, rfl⟩ := h
      exact .ghost _ (by simp [rho, h1]) (hd _ _ h1)
    · exact h.elim
  · split at h
    · obtain ⟨h1, rfl, rfl, rfl⟩ := h
      exact .ptr _ _ _ _ _ (by simp [rho, h1]) (hd _ _ h1)
    · exact h.elim
  · rename_i k ys
    split at h
    · rename_i i n
      obtain ⟨h1, h2⟩ := h
      unfold ltS at h2
      split at h2
      · rename_i k' xs fz hg
        obtain ⟨rfl, rfl, rfl, h3⟩ := h2
        obtain ⟨h4, h5⟩ := imXs_flat h3
        exact .shut _ _ _ _ _ fz h1 hg rfl rfl h4 (fun j c c' hc hc' => by
          rw [hc] at hc'; injection hc' with hc'; subst hc'
          exact .im _ (h5 _ (List.mem_of_getElem? hc))) h5
      · exact h2.elim
    · rename_i i n lo len
      obtain ⟨h1, h2⟩ := h
      unfold ltV at h2
      split at h2
      · rename_i k' xs fz hg
        obtain ⟨rfl, rfl, rfl, hle, h3⟩ := h2
        obtain ⟨h4, h5⟩ := imXs_flat h3
        have hsub : ∀ c ∈ flat ((xs.drop lo).take len), imT c = true := fun c hc => by
          simp only [flat, List.mem_flatMap] at hc
          obtain ⟨y, hy, hc⟩ := hc
          exact h5 c (by simp only [flat, List.mem_flatMap]; exact ⟨y, List.mem_of_mem_drop (List.mem_of_mem_take hy), hc⟩)
        exact .shutv _ _ _ _ _ _ _ fz h1 hg rfl (by simp; omega) (fun y hy => h4 y (List.mem_of_mem_drop (List.mem_of_mem_take hy))) (fun j c c' hc hc' => by
          rw [hc] at hc'; injection hc' with hc'; subst hc'
          exact .im _ (hsub _ (List.mem_of_getElem? hc))) hsub
      · exact h2.elim
    · subst h; exact .nil k
    · subst h; exact .im _ rfl
  · rename_i cs
    split at h
    · rename_i i n a b
      obtain ⟨h1, h2⟩ := h
      unfold ltP at h2
      split at h2
      · rename_i k xs fz hg
        obtain ⟨h3, h4, h5, h6⟩ := h2
        refine .ptrip _ _ _ _ k xs _ fz h1 hg h3 h4 h5 fun c hc => ?_
        subst h5
        have hx : xs.getD a .junk ∈ xs := by
          rw [List.getD_eq_getElem?_getD, List.getElem?_eq_getElem (by omega)]
          exact List.getElem_mem _
        exact imL_mem (h6 _ hx).2 c (List.mem_of_mem_drop hc)
      · exact h2.elim
    · subst h; exact .im _ rfl
  · exact h.elim
  · exact h.elim
  · exact h.elim
  · split at h
    · obtain ⟨h1, rfl, rfl, rfl⟩ := h
      exact .vw _ _ _ _ _ (by simp [rho, h1]) (hd _ _ h1)
    · obtain ⟨h1, rfl, rfl, rfl⟩ := h
      exact .aslv _ _ _ (by simp [rho, h1]) (hd _ _ h1)
    · exact h.elim
  · split at h
    · exact .mp _ _ (by simp [rho, h]) (hd _ _ h)
    · exact h.elim
  · rename_i h1 h2 h3 h4 h9 h5 h6 h7 h8 h10
    subst h
    cases x with
    | v x => exact .im _ rfl
    | ip cs => exact absurd rfl (h9 _)
    | ub p q => exact .im _ rfl
    | junk => exact .junk _
    | asl => exact absurd rfl (h2 _ _)
    | ptr => exact absurd rfl (h3 _ _ _ _)
    | sl => exact absurd rfl (h4 _ _)
    | agg => exact absurd rfl (h5 _)
    | clo => exact absurd rfl (h6 _ _)
    | tup => exact absurd rfl (h7 _)
    | vw => exact absurd rfl (h8 _ _ _ _)
    | mp => exact absurd rfl (h10 _)

theorem ltC0s_sound (hd : ∀ i x, TL.get ρ i = some x → d i) : ∀ {xs ys : List T}, ltC0s st ρ B xs ys → xs.length = ys.length ∧ ∀ (j : Nat) (c c' : T), xs[j]? = some c → ys[j]? = some c' → Lt st d (rho ρ) B c c'
  | [], [], _ => ⟨rfl, fun j c c' h => by simp at h⟩
  | [], _ :: _, h => h.elim
  | _ :: _, [], h => h.elim
  | x :: xs, y :: ys, h => by
    obtain ⟨h1, h2⟩ := h
    obtain ⟨h3, h4⟩ := ltC0s_sound hd h2
    refine ⟨by simp [h3], fun j c c' hc hc' => ?_⟩
    cases j with
    | zero => simp at hc hc'; subst hc hc'; exact ltC0_sound hd h1
    | succ j => exact h4 j c c' (by simpa using hc) (by simpa using hc')
theorem ltC_sound (hd : ∀ i x, TL.get ρ i = some x → d i) {x y : T} (h : ltC st ρ B x y) : Lt st d (rho ρ) B x y := by
  unfold ltC at h
  split at h
  · split at h
    · obtain ⟨rfl, h⟩ := h; obtain ⟨h1, h2⟩ := ltC0s_sound hd h; exact .clo _ _ _ h1 h2
    · exact h.elim
  · exact ltC0_sound hd h

theorem ltCs_sound (hd : ∀ i x, TL.get ρ i = some x → d i) : ∀ {xs ys : List T}, ltCs st ρ B xs ys → xs.length = ys.length ∧ ∀ (j : Nat) (c c' : T), xs[j]? = some c → ys[j]? = some c' → Lt st d (rho ρ) B c c'
  | [], [], _ => ⟨rfl, fun j c c' h => by simp at h⟩
  | [], _ :: _, h => h.elim
  | _ :: _, [], h => h.elim
  | x :: xs, y :: ys, h => by
    obtain ⟨h1, h2⟩ := h
    obtain ⟨h3, h4⟩ := ltCs_sound hd h2
    refine ⟨by simp [h3], fun j c c' hc hc' => ?_⟩
    cases j with
    | zero => simp at hc hc'; subst hc hc'; exact ltC_sound hd h1
    | succ j => exact h4 j c c' (by simpa using hc) (by simpa using hc')

theorem ltA_sound (hd : ∀ i x, TL.get ρ i = some x → d i) {x y : T} (h : ltA st ρ B x y) : Lt st d (rho ρ) B x y := by
  unfold ltA at h
  split at h
  · split at h
    · obtain ⟨h1, h2⟩ := ltCs_sound hd h; exact .agg _ _ h1 h2
    · exact h.elim
  · split at h
    · obtain ⟨rfl, h⟩ := h; obtain ⟨h1, h2⟩ := ltCs_sound hd h; exact .clo _ _ _ h1 h2
    · exact h.elim
  · exact ltC_sound hd h
theorem ltAs_sound (hd : ∀ i x, TL.get ρ i = some x → d i) : ∀ {xs ys : List T}, ltAs st ρ B xs ys → xs.length = ys.length ∧ ∀ (j : Nat) (c c' : T), xs[j]? = some c → ys[j]? = some c' → Lt st d (rho ρ) B c c'
  | [], [], _ => ⟨rfl, fun j c c' h => by simp at h⟩
  | [], _ :: _, h => h.elim
  | _ :: _, [], h => h.elim
  | x :: xs, y :: ys, h => by
    obtain ⟨h1, h2⟩ := h
    obtain ⟨h3, h4⟩ := ltAs_sound hd h2
    refine ⟨by simp [h3], fun j c c' hc hc' => ?_⟩
    cases j with
    | zero => simp at hc hc'; subst hc hc'; exact ltA_sound hd h1
    | succ j => exact h4 j c c' (by simpa using hc) (by simpa using hc')
theorem ltT_sound (hd : ∀ i x, TL.get ρ i = some x → d i) {x y : T} (h : ltT st ρ B x y) : Lt st d (rho ρ) B x y := by
  unfold ltT at h
  split at h
  · split at h
    · obtain ⟨h1, h2⟩ := ltAs_sound hd h; exact .tup _ _ h1 h2
    · exact h.elim
  · exact ltA_sound hd h

theorem ltXs_flat {k : Nat} {xs ys : List T} (h : ltXs st ρ B k xs ys) (hd : ∀ i x, TL.get ρ i = some x → d i) : (∀ y ∈ ys, y.cells.length = k) ∧ ∀ (j : Nat) (c c' : T), (flat xs)[j]? = some c → (flat ys)[j]? = some c' → Lt st d (rho ρ) B c c' := by
  obtain ⟨hl, h⟩ := h
  have hx : ∀ x ∈ xs, x.cells.length = k := by
    intro x hx
    obtain ⟨i, hi, rfl⟩ := List.getElem_of_mem hx
    exact (h i xs[i] (ys[i]'(by omega)) (by simp) (by simp)).1
  have hy : ∀ y ∈ ys, y.cells.length = k := by
    intro y hy
    obtain ⟨i, hi, rfl⟩ := List.getElem_of_mem hy
    exact (h i (xs[i]'(by omega)) ys[i] (by simp) (by simp)).2.1
  refine ⟨hy, fun j c c' hc hc' => ?_⟩
  have hj : j < xs.length * k := by rw [← flat_length hx]; exact (List.getElem?_eq_some_iff.1 hc).1
  have hk : 0 < k := by
    rcases Nat.eq_zero_or_pos k with h0 | h0
    · rw [h0] at hj; simp at hj
    · exact h0
  have hi : j / k < xs.length := by rw [Nat.div_lt_iff_lt_mul hk]; exact hj
  have he : j = (j / k) * k + j % k := by rw [Nat.mul_comm]; exact (Nat.div_add_mod j k).symm
  have at1 : ∀ {zs : List T}, (∀ z ∈ zs, z.cells.length = k) → ∀ (i m : Nat) (z : T), zs[i]? = some z → m < k → (flat zs)[i * k + m]? = z.cells[m]? := by
    intro zs
    induction zs with
    | nil => intro _ i m z hz; simp at hz
    | cons z0 zs ih =>
      intro hk' i m z hz hm
      have hz0 := hk' z0 (by simp)
      simp only [flat, List.flatMap_cons]
      cases i with
      | zero => simp at hz; subst hz; rw [List.getElem?_append_left (by omega)]; simp
      | succ i =>
        rw [List.getElem?_append_right (by rw [hz0, Nat.succ_mul]; omega), hz0, show (i + 1) * k + m - k = i * k + m by rw [Nat.succ_mul]; omega]
        exact ih (fun z hz => hk' z (by simp [hz])) i m z (by simpa using hz) hm
  rw [he, at1 hx (j / k) (j % k) xs[j / k] (by simp [hi]) (Nat.mod_lt _ hk)] at hc
  rw [he, at1 hy (j / k) (j % k) (ys[j / k]'(by omega)) (by simp) (Nat.mod_lt _ hk)] at hc'
  have h3 := (h (j / k) xs[j / k] (ys[j / k]'(by omega)) (by simp [hi]) (by simp)).2.2
  exact (ltCs_sound hd h3).2 _ c c' hc hc'

theorem ltSto_get : ∀ {l : Sto}, ltSto st ρ B l → ∀ {i k : Nat} {ys : List T} {fz : Bool}, TL.get l i = some (.arr k ys fz) → ltO2 st ρ B k ys fz (TL.get ρ i)
  | [], _, i, k, ys, fz, h => by cases h
  | (j, .dead) :: r, hs, i, k, ys, fz, h => by
    simp only [TL.get] at h
    split at h
    · injection h with h; cases h
    · exact ltSto_get (l := r) hs h
  | (j, .arr k0 y0 f0) :: r, hs, i, k, ys, fz, h => by
    simp only [TL.get] at h
    split at h
    · rename_i hj; subst hj
      injection h with h; injection h with h1 h2 h3; subst h1 h2 h3
      exact hs.1
    · exact ltSto_get (l := r) hs.2 h

  | (j, .mp es) :: r, hs, i, k, ys, fz, h => by
    simp only [TL.get] at h
    split at h
    · injection h with h; cases h
    · exact ltSto_get (l := r) hs.2 h
  | (j, .full ..) :: r, hs, i, k, ys, fz, h => hs.elim
theorem ltSto_mp : ∀ {l : Sto}, ltSto st ρ B l → ∀ {i : Nat} {es : Es}, TL.get l i = some (.mp es) → ltM2 st es (TL.get ρ i)
  | [], _, i, es, h => by cases h
  | (j, .dead) :: r, hs, i, es, h => by
    simp only [TL.get] at h
    split at h
    · injection h with h; cases h
    · exact ltSto_mp (l := r) hs h
  | (j, .arr k0 y0 f0) :: r, hs, i, es, h => by
    simp only [TL.get] at h
    split at h
    · injection h with h; cases h
    · exact ltSto_mp (l := r) hs.2 h
  | (j, .mp es0) :: r, hs, i, es, h => by
    simp only [TL.get] at h
    split at h
    · rename_i hj; subst hj
      injection h with h; injection h with h; subst h
      exact hs.1
    · exact ltSto_mp (l := r) hs.2 h
  | (j, .full ..) :: r, hs, i, es, h => hs.elim
theorem ltSto_nf : ∀ {l : Sto}, ltSto st ρ B l → ∀ {i : Nat} {a b : Nat} {g : Bool}, TL.get l i ≠ some (.full a b g)
  | [], _, i, a, b, g, h => by cases h
  | (j, .dead) :: r, hs, i, a, b, g, h => by
    simp only [TL.get] at h
    split at h
    · injection h with h; cases h
    · exact ltSto_nf (l := r) hs h
  | (j, .arr k0 y0 f0) :: r, hs, i, a, b, g, h => by
    simp only [TL.get] at h
    split at h
    · injection h with h; cases h
    · exact ltSto_nf (l := r) hs.2 h
  | (j, .mp es0) :: r, hs, i, a, b, g, h => by
    simp only [TL.get] at h
    split at h
    · injection h with h; cases h
    · exact ltSto_nf (l := r) hs.2 h
  | (j, .full ..) :: r, hs, i, a, b, g, h => hs.elim

theorem hndOk_get : ∀ {l : Sto}, hndOk st' ρ l = true → ∀ {i : Nat}, TL.get l i ≠ none → TL.get st' i ≠ none ∧ TL.get ρ i = some (some i)
  | [], _, i, h => by simp [TL.get] at h
  | (j, o) :: r, hh, i, h => by
    simp only [hndOk, Bool.and_eq_true, beq_iff_eq] at hh
    simp only [TL.get] at h
    split at h
    · rename_i hj; subst hj
      exact ⟨by intro hn; simp [hn] at hh, hh.1.2⟩
    · exact hndOk_get hh.2 h

theorem lesOf {e : Env} {fr fr' : List (Nat × T)} (hr : renOk st' ρ = true) (hh : hndOk st' ρ e.st0 = true) (hs : ltSto st ρ B st') (hf : ltFr st ρ B fr fr') : LeS e ⟨fr, st⟩ ⟨fr', st'⟩ (rho ρ) B where
  o := {
    ob := fun i k ys fz hg => by
      have h := ltSto_get hs hg
      unfold ltO2 at h
      split at h
      · rename_i hρ; exact .inl ⟨by simp [rho, hρ], h⟩
      · rename_i j hρ
        unfold ltO1 at h
        split at h
        · rename_i k0 xs f0 hg0
          obtain ⟨rfl, h2, h3, h4⟩ := h
          obtain ⟨h5, h6⟩ := ltXs_flat h3 (fun _ _ h => ren_has hr h)
          exact .inr ⟨j, xs, f0, by simp [rho, hρ], hg0, h3.1, h2, h5, h6, h4⟩
        · exact h.elim
      · exact h.elim
    inj := fun i1 i2 j _ _ h1 h2 => by
      simp only [renOk, Bool.and_eq_true, decide_eq_true_eq] at hr
      unfold rho at h1 h2
      split at h1
      · rename_i j1 g1
        split at h2
        · rename_i j2 g2
          injection h1 with h1; injection h2 with h2; subst h1 h2
          exact nodup_inj hr.2 (get_mem g1) (get_mem g2)
        · cases h2
      · cases h1
    mp := fun i es hg => by
      have h := ltSto_mp hs hg
      unfold ltM2 at h
      split at h
      · rename_i j hρ
        unfold ltM at h
        split at h
        · rename_i es' hg0
          subst h
          exact ⟨j, by simp [rho, hρ], hg0⟩
        · exact h.elim
      · exact h.elim
    nf := fun i a b g => ltSto_nf hs }
  fr := by
    intro t y hy
    have : ∀ {l : List (Nat × T)}, ltFr st ρ B fr l → TL.get l t = some y → ltT st ρ B ((TL.get fr t).getD .junk) y := by
      intro l
      induction l with
      | nil => intro _ h; cases h
      | cons p r ih =>
        obtain ⟨u, z⟩ := p
        intro h hg
        simp only [TL.get] at hg
        split at hg
        · rename_i hu; subst hu; injection hg with hg; subst hg; exact h.1
        · exact ih h.2 hg
    exact ltT_sound (fun _ _ h => ren_has hr h) (this hf hy)
  hnd := fun id hd => by
    obtain ⟨h1, h2⟩ := hndOk_get hh hd
    exact ⟨h1, fun k xs fz _ => by simp [rho, h2], fun es _ => by simp [rho, h2]⟩

theorem Le.of {e : Env} {fr fr' : List (Nat × T)} (ρ : Ren) (B : List Nat) (hr : renOk st' ρ = true) (hh : hndOk st' ρ e.st0 = true) (hs : ltSto st ρ B st') (hf : ltFr st ρ B fr fr') : Le e ⟨fr, st⟩ ⟨fr', st'⟩ := (lesOf hr hh hs hf).le

theorem EndOk.of {st0 : Sto} {x r : T} (ρ : Ren) (B : List Nat) (hr : renOk st' ρ = true) (hh : hndOk st' ρ st0 = true) (hs : ltSto st ρ B st') (hf : ltT st ρ B x r) : EndOk st0 x st r st' :=
  .les ⟨rho ρ, B, lesOf hr hh hs ⟨by simpa [TL.get] using hf, trivial⟩⟩
/-- a prefix of an object becomes the object; then less is known -/
theorem EndOk.cut {st0 : Sto} {x r : T} {st st' : Sto} (id nid m : Nat) {k : Nat} {xs : List T} (hg : TL.get st id = some (.arr k xs false)) (hn : TL.get st nid = none) (hm : m ≤ xs.length)
    (h : EndOk st0 (cut2 id nid xs.length m x) (cutSt id nid m k xs st) r st') : EndOk st0 x st r st' :=
  fun e he => (Le.cut id nid m hg hn hm).trans (h e he)
theorem EndOk.cutv {st0 : Sto} {r : T} {st st' : Sto} {id n m : Nat} (nid : Nat) {k : Nat} {xs : List T} (hg : TL.get st id = some (.arr k xs false)) (hl : xs.length = n) (hn : TL.get st nid = none) (hm : m ≤ xs.length)
    (h : EndOk st0 (.asl nid m) (cutSt id nid m k xs st) r st') : EndOk st0 (.vw id n 0 m) st r st' := by
  refine .cut id nid m hg hn hm ?_
  have : cut2 id nid xs.length m (.vw id n 0 m) = .asl nid m := by
    simp [cut2, cut1, cut0, hl]
  rw [this]; exact h

theorem ltC0_im0 {x : T} (h : imT0 x = true) : ltC0 st ρ B x x := by
  cases x <;> first | (simp [imT0] at h; done) | trivial | rfl
theorem ltC0s_im0 : ∀ {l : List T}, imT0L l = true → ltC0s st ρ B l l
  | [], _ => trivial
  | c :: r, h => by
    simp only [imT0L, Bool.and_eq_true] at h
    exact ⟨ltC0_im0 h.1, ltC0s_im0 h.2⟩
theorem ltC_im0 {x : T} (h : imT x = true) : ltC st ρ B x x := by
  cases x with
  | clo f cs => exact ⟨rfl, ltC0s_im0 h⟩
  | v a => exact ltC0_im0 (st := st) (ρ := ρ) (B := B) (x := .v a) h
  | sl k xs => exact ltC0_im0 (st := st) (ρ := ρ) (B := B) (x := .sl k xs) h
  | ip cs => exact ltC0_im0 (st := st) (ρ := ρ) (B := B) (x := .ip cs) h
  | junk => trivial
  | ub p q => exact ltC0_im0 (st := st) (ρ := ρ) (B := B) (x := .ub p q) h
  | _ => simp [imT, imT0] at h
/-! ### contents that are the same, or one more -/
theorem ltXs_refl {k : Nat} {xs : List T} (h : ImXs k xs) : ltXs st ρ B k xs xs := by
  refine ⟨rfl, fun i x y hx hy => ?_⟩
  rw [hx] at hy; injection hy with hy; subst hy
  obtain ⟨h1, h2⟩ := h x (List.mem_of_getElem? hx)
  refine ⟨h1, h1, ?_⟩
  clear h1 hx
  have : ∀ l : List T, imL l = true → ltCs st ρ B l l := by
    intro l
    induction l with
    | nil => intro _; trivial
    | cons c r ih =>
      intro hl
      simp only [imL, Bool.and_eq_true] at hl
      refine ⟨?_, ih hl.2⟩
      exact ltC_im0 hl.1
  exact this _ h2
theorem ltXs_nil {k : Nat} : ltXs st ρ B k [] [] := ⟨rfl, fun i x y hx => by simp at hx⟩
theorem ltXs_append {k : Nat} {a b c d : List T} (h1 : ltXs st ρ B k a c) (h2 : ltXs st ρ B k b d) : ltXs st ρ B k (a ++ b) (c ++ d) := by
  refine ⟨by simp [h1.1, h2.1], fun i x y hx hy => ?_⟩
  by_cases hi : i < a.length
  · rw [List.getElem?_append_left hi] at hx
    rw [List.getElem?_append_left (by rw [← h1.1]; exact hi)] at hy
    exact h1.2 i x y hx hy
  · rw [List.getElem?_append_right (by omega)] at hx
    rw [List.getElem?_append_right (by rw [← h1.1]; omega), ← h1.1] at hy
    exact h2.2 _ x y hx hy
theorem ltXs_cons {k : Nat} {x y : T} {xs ys : List T} (h0 : x.cells.length = k ∧ y.cells.length = k ∧ ltCs st ρ B x.cells y.cells) (h : ltXs st ρ B k xs ys) : ltXs st ρ B k (x :: xs) (y :: ys) := by
  have h1 : ltXs st ρ B k [x] [y] := by
    refine ⟨rfl, fun i a b ha hb => ?_⟩
    cases i with
    | zero => simp at ha hb; subst ha hb; exact h0
    | succ i => simp at ha
  exact ltXs_append h1 h
theorem imXs_ints {k : IntKind} {ns : List Int} : ImXs 1 (ns.map fun n => T.v (.int k n)) := by
  intro x hx
  simp only [List.mem_map] at hx
  obtain ⟨n, _, rfl⟩ := hx
  exact ⟨rfl, rfl⟩
theorem imXs_map {α : Type} {k : Nat} {f : α → T} (h : ∀ a, (f a).cells.length = k ∧ imL (f a).cells = true) (l : List α) : ImXs k (l.map f) := by
  intro x hx
  simp only [List.mem_map] at hx
  obtain ⟨n, _, rfl⟩ := hx
  exact h n
end
end Go.TL
