/- From a function's short form to its contract; contracts of functions that keep nothing. -/
import Derived.Test.YtnejebkdlofdoaaZzX
namespace Go.TL
set_option linter.unusedSimpArgs false
set_option linter.unusedVariables false

inductive RR where
  | tmp (t : Nat)
  | cell (t : Nat) (l : Option Nat)

def rsvRes (P : Program) : List ResultVar → Option (List RR)
  | [] => some []
  | .tmp t :: r => match rsvRes P r with | some l => some (.tmp t :: l) | none => none
  | .cell t ty :: r => match ldT P ty, rsvRes P r with
    | some l, some rs => some (.cell t l :: rs)
    | _, _ => none

def resR (s : St) : RR → Option (Prop × T)
  | .tmp t => some (True, (get s.fr t).getD .junk)
  | .cell t l => match ldR l s.st ((get s.fr t).getD .junk) with
    | some r => some (r.side, r.val)
    | none => none

def ressR (s : St) : List RR → Option (Prop × List T)
  | [] => some (True, [])
  | x :: r => match resR s x, ressR s r with
    | some (p, t), some (q, l) => some (p ∧ q, t :: l)
    | _, _ => none

/-- a function in its short form -/
def FnIR (P : Program) (f : FuncId) (n : Nat) (kss : List (Nat × List Nat)) (rc : RC) (rs : List RR) : Prop :=
  ∃ fn c, P.funcs[f]? = some fn ∧ fn.body = some c ∧ goFn P f = true ∧ fn.ntmps = n ∧ rsvC P n kss c = some rc ∧ rsvRes P fn.results.toList = some rs

/-- the end, said with less: only the objects at the entry matter -/
def EndOk (st0 : Sto) (x : T) (st : Sto) (r : T) (st' : Sto) : Prop := ∀ e : Env, e.st0 = st0 → Le e ⟨[(0, x)], st⟩ ⟨[(0, r)], st'⟩
theorem EndOk.les {st0 : Sto} {x : T} {st : Sto} {r : T} {st' : Sto} (h : ∃ ρ B, LeS { S := fun _ => False, base := 0, hnd := fun _ => False, w0 := default, n := 1, st0 := st0 } ⟨[(0, x)], st⟩ ⟨[(0, r)], st'⟩ ρ B) : EndOk st0 x st r st' := by
  obtain ⟨ρ, B, q⟩ := h
  exact fun e he => LeS.le ⟨q.o, q.fr, fun id hd => q.hnd id (by simpa [he] using hd)⟩

def endR (st0 : Sto) (rs : List RR) (r : T) (st' : Sto) : Ex → St → Prop
  | .exit _, _ => False
  | _, s => match ressR s rs with
    | some (p, l) => p ∧ EndOk st0 (tupT l) s.st r st'
    | none => False

section
variable {P : Program}

theorem resT_cell {s : St} {t : Nat} {ty : TypeId} {l : Option Nat} (h : ldT P ty = some l) : resT P s (.cell t ty) = resR s (.cell t l) := by
  simp only [resT, resR]
  have : loadT P s ty ((get s.fr t).getD .junk) = ldR l s.st ((get s.fr t).getD .junk) := by
    unfold loadT ldR
    rw [h]
    cases (get s.fr t).getD T.junk <;> rfl
  rw [this]
  cases ldR l s.st ((get s.fr t).getD .junk) <;> rfl

theorem rsvRes_spec {s : St} : ∀ {l : List ResultVar} {rs : List RR}, rsvRes P l = some rs → resAll P s l = ressR s rs
  | [], rs, h => by simp only [rsvRes, Option.some.injEq] at h; subst h; rfl
  | .tmp t :: r, rs, h => by
    simp only [rsvRes] at h
    split at h
    · rename_i l hl
      injection h with h; subst h
      simp only [resAll, ressR, resT, resR, rsvRes_spec hl]
      cases ressR s l <;> rfl
    · cases h
  | .cell t ty :: r, rs, h => by
    simp only [rsvRes] at h
    split at h
    · rename_i l rs' h1 h2
      injection h with h; subst h
      simp only [resAll, ressR, resT_cell h1, rsvRes_spec h2]
      cases resR s (.cell t l) <;> cases ressR s rs' <;> rfl
    · cases h

theorem spec_of_cut (ids : List Nat) {f : FuncId} {n : Nat} {kss : List (Nat × List Nat)} {rc : RC} {rs : List RR} (h : FnIR P f n kss rc rs) (hm : P.follows .mixedOrders = true) {ts : List T} {st st' : Sto} {r : T} (hn : ts.length ≤ n)
    (hw : ∀ e : Env, e.n = n → e.st0 = st → wpC P e kss (cutAt ids rc) ⟨argFr 0 ts, st⟩ (endR st rs r st')) (hnm : noMp st = true := by rfl) : Spc P f ts st r st' := by
  obtain ⟨fn, c, h1, h2, h3, h4, h5, h6⟩ := h
  subst h4
  refine spec_of_body h1 h2 h3 hn (fun e he hst => ?_) hnm
  refine (wpC_sound hm (cutAt ids rc) _ _ (hw e he hst) c (by rw [erase_cutAt, rsvC_erase c rc h5]; exact he ▸ h5)).mono ?_
  have key : ∀ s, (match ressR s rs with
      | some (p, l) => p ∧ EndOk st (tupT l) s.st r st'
      | none => False) → (match resAll P s fn.results.toList with
      | some (p, l) => p ∧ Le { e with n := 1 } ⟨[(0, tupT l)], s.st⟩ ⟨[(0, r)], st'⟩
      | none => False) := by
    intro s hq
    rw [rsvRes_spec h6]
    split
    · rename_i p l hr
      rw [hr] at hq
      obtain ⟨q1, q2⟩ := hq
      exact ⟨q1, q2 _ hst⟩
    · rename_i hr
      rw [hr] at hq
      exact hq
  intro x s hq
  cases x with
  | normal => exact key s hq
  | ret => exact key s hq
  | exit i => exact hq

theorem cutAt_nil (rc : RC) : cutAt [] rc = rc := by
  induction rc <;> simp_all [cutAt]
theorem spec_of_ir {f : FuncId} {n : Nat} {kss : List (Nat × List Nat)} {rc : RC} {rs : List RR} (h : FnIR P f n kss rc rs) (hm : P.follows .mixedOrders = true) {ts : List T} {st st' : Sto} {r : T} (hn : ts.length ≤ n)
    (hw : ∀ e : Env, e.n = n → e.st0 = st → wpC P e kss rc ⟨argFr 0 ts, st⟩ (endR st rs r st')) (hnm : noMp st = true := by rfl) : Spc P f ts st r st' :=
  spec_of_cut [] h hm hn (fun e he hst => by rw [cutAt_nil]; exact hw e he hst) hnm
/-! ### less, checked by evaluation -/
def imL : List T → Bool
  | [] => true
  | x :: r => imT x && imL r
/-- trees that need no object -/
def imA : T → Bool
  | .agg cs => imL cs
  | .clo _ cs => imL cs
  | x => imT x
def imAL : List T → Bool
  | [] => true
  | x :: r => imA x && imAL r
def imTup : T → Bool
  | .tup ts => imAL ts
  | x => imA x

theorem imL_mem {l : List T} (h : imL l = true) : ∀ x ∈ l, imT x = true := by
  induction l with
  | nil => simp
  | cons y r ih =>
    simp only [imL, Bool.and_eq_true] at h
    intro x hx
    rcases List.mem_cons.1 hx with rfl | hx
    · exact h.1
    · exact ih h.2 x hx
theorem imAL_mem {l : List T} (h : imAL l = true) : ∀ x ∈ l, imA x = true := by
  induction l with
  | nil => simp
  | cons y r ih =>
    simp only [imAL, Bool.and_eq_true] at h
    intro x hx
    rcases List.mem_cons.1 hx with rfl | hx
    · exact h.1
    · exact ih h.2 x hx

variable {st : Sto} {d : Nat → Prop} {ρ : Nat → Option Nat} {B : List Nat}

theorem Lt.of_imA {x : T} (h : imA x = true) : Lt st d ρ B x x := by
  have key : ∀ cs : List T, imL cs = true → ∀ (j : Nat) (c c' : T), cs[j]? = some c → cs[j]? = some c' → Lt st d ρ B c c' := by
    intro cs hc j c c' h1 h2
    rw [h1] at h2; injection h2 with h2; subst h2
    exact .im c (imL_mem hc c (List.mem_of_getElem? h1))
  cases x with
  | agg cs => exact .agg cs cs rfl (key cs h)
  | clo f cs => exact .clo f cs cs rfl (key cs h)
  | tup cs => simp [imA, imT, imT0] at h
  | _ => exact .im _ h
theorem Lt.of_imTup {x : T} (h : imTup x = true) : Lt st d ρ B x x := by
  cases x with
  | tup cs =>
    refine .tup cs cs rfl fun j c c' h1 h2 => ?_
    rw [h1] at h2; injection h2 with h2; subst h2
    exact .of_imA (imAL_mem h c (List.mem_of_getElem? h1))
  | _ => exact .of_imA h

theorem ltO_nil {st : Sto} {ρ : Nat → Option Nat} {B : List Nat} : LtO st [] ρ B := ⟨fun id' k xs' fz' h => by simp [get] at h, fun i1 i2 id h => by simp [get] at h, fun id' es h => by simp [get] at h, fun id' i n g h => by simp [get] at h⟩

theorem EndOk.im {x : T} {st : Sto} (h : imTup x = true) : EndOk [] x st x [] := by
  refine .les ⟨fun _ => none, [], ⟨ltO_nil, fun t y hy => ?_, fun id hd => by simp [get] at hd⟩⟩
  simp only [get] at hy ⊢
  split at hy
  · rename_i ht; subst ht; injection hy with hy; subst hy; simp only [if_true, Option.getD_some]; exact .of_imTup h
  · cases hy

/-- a call with arguments and a result that need no object -/
theorem CallOK.im {st : Sto} {ts : List T} {r : T} {rd : List Nat} (h1 : imAL ts = true) (h2 : imTup r = true) : CallOK st ts ts [] [] r r [] (fun _ => none) (fun _ => none) [] rd where
  len := rfl
  arg := fun i t t' h h' => by rw [h] at h'; injection h' with h'; subst h'; exact .of_imA (imAL_mem h1 t (List.mem_of_getElem? h))
  o := ltO_nil
  hB := fun id h => by simp at h
  hk := fun id' id h => by simp [get] at h
  wk := fun id ob h => by simp [get] at h
  inj2 := fun i1 i2 id' h => by simp [get] at h
  vl := .of_imTup h2
  froz := .inl fun id h => by simp at h

theorem CallP.im {st : Sto} {fid : FuncId} {caps ts : List T} {r : T} (hs : Spc P fid (ts ++ caps) [] r []) (h1 : imAL (ts ++ caps) = true) (h2 : imTup r = true) : CallP P st (.clo fid caps) ts r [] [] :=
  .inl ⟨fid, caps, _, _, _, r, _, _, _, rfl, hs, .im h1 h2⟩
end
end Go.TL
