/- The evaluation as equations without binders: what simp goes by. -/
import Derived.Test.YtniidokeakbdiaaZzU
namespace Go.TL
set_option linter.unusedSimpArgs false
set_option linter.unusedVariables false

/-- what comes behind -/
inductive KF where
  | seq (b : RC)
  | block (id : Nat)

section
variable (P : Program) (e : Env) (kss : List (Nat × List Nat))

def kq (Q : Ex → St → Prop) : List KF → Ex → St → Prop
  | [] => Q
  | .seq b :: K => seqQ (fun s => wpC P e kss b s (kq Q K)) (kq Q K)
  | .block id :: K => blockQ id (kq Q K)

/-- code, what comes behind, the state -/
def W (Q : Ex → St → Prop) (rc : RC) (K : List KF) (fr : List (Nat × T)) (st : Sto) : Prop := wpC P e kss rc ⟨fr, st⟩ (kq P e kss Q K)

/-- an end, what comes behind -/
def X (Q : Ex → St → Prop) (x : Ex) (K : List KF) (fr : List (Nat × T)) (st : Sto) : Prop := kq P e kss Q K x ⟨fr, st⟩

def BR (Q : Ex → St → Prop) (t : T) (a b : RC) (K : List KF) (fr : List (Nat × T)) (st : Sto) : Prop :=
  match t with
  | .v (.bool t) => (t = true → W P e kss Q a K fr st) ∧ (t = false → W P e kss Q b K fr st)
  | _ => False

abbrev Acc := List (List Nat × List Nat)

/-- a row: what is left of it -/
def R (Q : Ex → St → Prop) (rows : Option (List Nat)) (ks : List Nat) (K : List KF) (nid : Nat) (ops : List ROp) (F : XF) (st : Sto) (acc : Acc) : Prop :=
  wpR P nid ops F st acc fun F st acc => rowsOk rows acc ∧ kq P e kss Q K .normal ⟨keepX F ks, st⟩

/-- an operation whose effect is found -/
def S1 (Q : Ex → St → Prop) (rows : Option (List Nat)) (ks : List Nat) (K : List KF) (r : Option Res) (d : Option Nat) (rd : List Nat) (nid : Nat) (ops : List ROp) (F : XF) (st : Sto) (acc : Acc) : Prop :=
  match r with
  | some r => r.side ∧ R P e kss Q rows ks K nid ops (putX F d (.p r.val)) (stUp st r.wr) (acc ++ [(rd, r.wr.map (·.1))])
  | none => False

def C1 (Q : Ex → St → Prop) (rows : Option (List Nat)) (ks : List Nat) (K : List KF) (f : T) (xs : List T) (d : Option Nat) (nid : Nat) (ops : List ROp) (F : XF) (st : Sto) (acc : Acc) : Prop :=
  ∃ val wr rd, CallP P st f xs val wr rd ∧ R P e kss Q rows ks K nid ops (putX F d (.p val)) (stUp st wr) (acc ++ [(rd, wr.map (·.1))])

/-- under a guard -/
def G1 (Q : Ex → St → Prop) (rows : Option (List Nat)) (ks : List Nat) (K : List KF) (g : Option (List (Nat × Bool) × Prop)) (d : Option Nat) (o : RO) (nid nid' : Nat) (ops : List ROp) (F : XF) (st : Sto) (acc : Acc) : Prop :=
  match g with
  | none => False
  | some (L, c) =>
    if isCallR o then ∃ val wr rd, (c → callX P F L st o val wr rd) ∧
      ((wr = [] ∧ R P e kss Q rows ks K nid' ops (putX F d (.g L c val)) st (acc ++ [(rd, [])])) ∨
       (c ∧ R P e kss Q rows ks K nid' ops (putX F d (.p val)) (stUp st wr) (acc ++ [(rd, wr.map (·.1))])) ∨
       (¬ c ∧ R P e kss Q rows ks K nid' ops (putX F d (.p (.v undef))) st (acc ++ [(rd, [])])))
    else match doX F L st nid o with
      | some r => (c → r.side) ∧ match r.wr with
        | [] => R P e kss Q rows ks K nid' ops (putX F d (.g L c r.val)) st (acc ++ [(nid :: rdX F L o, [])])
        | q :: qs => (c → R P e kss Q rows ks K nid' ops (putX F d (.p r.val)) (stUp st (q :: qs)) (acc ++ [(nid :: rdX F L o, (q :: qs).map (·.1))])) ∧
            (¬ c → R P e kss Q rows ks K nid' ops (putX F d (.p (.v undef))) st (acc ++ [(nid :: rdX F L o, [])]))
      | none => False

def G2 (Q : Ex → St → Prop) (rows : Option (List Nat)) (ks : List Nat) (K : List KF) (r : Option Res) (L : List (Nat × Bool)) (c : Prop) (d : Option Nat) (rd : List Nat) (nid' : Nat) (ops : List ROp) (F : XF) (st : Sto) (acc : Acc) : Prop :=
  match r with
  | some r => (c → r.side) ∧ match r.wr with
    | [] => R P e kss Q rows ks K nid' ops (putX F d (.g L c r.val)) st (acc ++ [(rd, [])])
    | q :: qs => (c → R P e kss Q rows ks K nid' ops (putX F d (.p r.val)) (stUp st (q :: qs)) (acc ++ [(rd, (q :: qs).map (·.1))])) ∧
        (¬ c → R P e kss Q rows ks K nid' ops (putX F d (.p (.v undef))) st (acc ++ [(rd, [])]))
  | none => False

/-- a call under a guard -/
def C2 (Q : Ex → St → Prop) (rows : Option (List Nat)) (ks : List Nat) (K : List KF) (L : List (Nat × Bool)) (c : Prop) (f : T) (xs : List T) (d : Option Nat) (nid' : Nat) (ops : List ROp) (F : XF) (st : Sto) (acc : Acc) : Prop :=
  ∃ val wr rd, (c → CallP P st f xs val wr rd) ∧
    ((wr = [] ∧ R P e kss Q rows ks K nid' ops (putX F d (.g L c val)) st (acc ++ [(rd, [])])) ∨
     (c ∧ R P e kss Q rows ks K nid' ops (putX F d (.p val)) (stUp st wr) (acc ++ [(rd, wr.map (·.1))])) ∨
     (¬ c ∧ R P e kss Q rows ks K nid' ops (putX F d (.p (.v undef))) st (acc ++ [(rd, [])])))

/-- the end of a row -/
def E1 (Q : Ex → St → Prop) (rows : Option (List Nat)) (acc : Acc) (K : List KF) (fr : List (Nat × T)) (st : Sto) : Prop := rowsOk rows acc ∧ X P e kss Q .normal K fr st
end

section
variable {P : Program} {e : Env} {kss : List (Nat × List Nat)} {Q : Ex → St → Prop} {K : List KF} {fr : List (Nat × T)} {st : Sto} {rows : Option (List Nat)} {ks : List Nat} {nid : Nat} {ops : List ROp} {F : XF} {acc : Acc}

theorem W_start {rc : RC} {s : St} (h : W P e kss Q rc [] s.fr s.st) : wpC P e kss rc s Q := h
theorem W_skip : W P e kss Q .skip K fr st = X P e kss Q .normal K fr st := _root_.id rfl
theorem W_exit {i : Nat} : W P e kss Q (.exit i) K fr st = X P e kss Q (.exit i) K fr st := _root_.id rfl
theorem W_ret : W P e kss Q .ret K fr st = X P e kss Q .ret K fr st := _root_.id rfl
theorem W_seq {a b : RC} : W P e kss Q (.seq a b) K fr st = W P e kss Q a (.seq b :: K) fr st := _root_.id rfl
theorem W_block {i : Nat} {a : RC} : W P e kss Q (.block i a) K fr st = W P e kss Q a (.block i :: K) fr st := _root_.id rfl
theorem W_cond {c : RV} {a b : RC} : W P e kss Q (.cond c a b) K fr st = BR P e kss Q (rv fr c) a b K fr st := by
  show (match rv fr c with
    | .v (.bool t) => (t = true → wpC P e kss a ⟨fr, st⟩ (kq P e kss Q K)) ∧ (t = false → wpC P e kss b ⟨fr, st⟩ (kq P e kss Q K))
    | _ => False) = _
  generalize rv fr c = x
  cases x <;> first | rfl | (rename_i v; cases v <;> rfl)
theorem BR_bool {t : Bool} {a b : RC} : BR P e kss Q (.v (.bool t)) a b K fr st = ((t = true → W P e kss Q a K fr st) ∧ (t = false → W P e kss Q b K fr st)) := _root_.id rfl
theorem W_reg {id : Nat} {l : List ROp} : W P e kss Q (.reg id rows ks l) K fr st = R P e kss Q rows ks K ((id + 1) * 4096) l (entX fr) st [] := _root_.id rfl

theorem X_nil {x : Ex} : X P e kss Q x [] fr st = Q x ⟨fr, st⟩ := _root_.id rfl
theorem X_seq {b : RC} : X P e kss Q .normal (.seq b :: K) fr st = W P e kss Q b K fr st := _root_.id rfl
theorem X_seq_exit {i : Nat} {b : RC} : X P e kss Q (.exit i) (.seq b :: K) fr st = X P e kss Q (.exit i) K fr st := _root_.id rfl
theorem X_seq_ret {b : RC} : X P e kss Q .ret (.seq b :: K) fr st = X P e kss Q .ret K fr st := _root_.id rfl
theorem X_block {i : Nat} : X P e kss Q .normal (.block i :: K) fr st = X P e kss Q .normal K fr st := _root_.id rfl
theorem X_block_ret {i : Nat} : X P e kss Q .ret (.block i :: K) fr st = X P e kss Q .ret K fr st := _root_.id rfl
theorem X_block_exit {i j : Nat} : X P e kss Q (.exit i) (.block j :: K) fr st = if i = j then X P e kss Q .normal K fr st else X P e kss Q (.exit i) K fr st := _root_.id rfl

theorem R_nil : R P e kss Q rows ks K nid [] F st acc = E1 P e kss Q rows acc K (keepX F ks) st := _root_.id rfl
theorem E1_none : E1 P e kss Q none acc K fr st = X P e kss Q .normal K fr st := by simp [E1, rowsOk]
theorem E1_some {l : List Nat} : E1 P e kss Q (some l) acc K fr st = (dynOk l acc = true ∧ X P e kss Q .normal K fr st) := _root_.id rfl
theorem R_op0 {d : Option Nat} {o : RO} (hc : isCallR o = false) : R P e kss Q rows ks K nid (⟨d, none, o⟩ :: ops) F st acc = S1 P e kss Q rows ks K (doX F [] st nid o) d (nid :: rdX F [] o) (nid + 4) ops F st acc := by
  unfold R S1
  simp only [wpR, hc]
  rfl
/-- an operation that is no call, or one -/
def O1 (P : Program) (e : Env) (kss : List (Nat × List Nat)) (Q : Ex → St → Prop) (rows : Option (List Nat)) (ks : List Nat) (K : List KF) (b : Bool) (d : Option Nat) (o : RO) (nid : Nat) (ops : List ROp) (F : XF) (st : Sto) (acc : Acc) : Prop :=
  match b with
  | true => R P e kss Q rows ks K nid (⟨d, none, o⟩ :: ops) F st acc
  | false => S1 P e kss Q rows ks K (doX F [] st nid o) d (nid :: rdX F [] o) (nid + 4) ops F st acc
theorem R_op {d : Option Nat} {o : RO} : R P e kss Q rows ks K nid (⟨d, none, o⟩ :: ops) F st acc = O1 P e kss Q rows ks K (isCallR o) d o nid ops F st acc := by
  cases h : isCallR o with
  | false => rw [R_op0 h]; rfl
  | true => rfl
theorem O1_op {d : Option Nat} {o : RO} : O1 P e kss Q rows ks K false d o nid ops F st acc = S1 P e kss Q rows ks K (doX F [] st nid o) d (nid :: rdX F [] o) (nid + 4) ops F st acc := _root_.id rfl
theorem O1_call {d : Option Nat} {f : RV} {xs : List RV} : O1 P e kss Q rows ks K true d (.call f xs) nid ops F st acc =
    (accAll F [] (f :: xs) = true ∧ C1 P e kss Q rows ks K (rhoX F [] f) (xs.map (rhoX F [])) d (nid + 4) ops F st acc) := by
  unfold O1 R C1
  simp only [wpR, isCallR, if_true, callX, eq_iff_iff]
  constructor
  · rintro ⟨val, wr, rd, ⟨h1, h2⟩, h3⟩; exact ⟨h1, val, wr, rd, h2, h3⟩
  · rintro ⟨h1, val, wr, rd, h2, h3⟩; exact ⟨val, wr, rd, ⟨h1, h2⟩, h3⟩
theorem R_guard {d : Option Nat} {t : Nat} {w : Bool} {o : RO} : R P e kss Q rows ks K nid (⟨d, some (t, w), o⟩ :: ops) F st acc = G1 P e kss Q rows ks K (labX F t w) d o nid (nid + 4) ops F st acc := by
  unfold R G1
  simp only [wpR]
  rfl
theorem S1_some {p : Prop} {val : T} {wr : List (Nat × Ob)} {d : Option Nat} {rd : List Nat} : S1 P e kss Q rows ks K (some ⟨p, val, wr⟩) d rd nid ops F st acc = (p ∧ R P e kss Q rows ks K nid ops (putX F d (.p val)) (stUp st wr) (acc ++ [(rd, wr.map (·.1))])) := _root_.id rfl
theorem G1_op0 {L : List (Nat × Bool)} {c : Prop} {d : Option Nat} {o : RO} {nid' : Nat} (hc : isCallR o = false) : G1 P e kss Q rows ks K (some (L, c)) d o nid nid' ops F st acc = G2 P e kss Q rows ks K (doX F L st nid o) L c d (nid :: rdX F L o) nid' ops F st acc := by
  unfold G1 G2
  simp only [hc]
  rfl
def O2 (P : Program) (e : Env) (kss : List (Nat × List Nat)) (Q : Ex → St → Prop) (rows : Option (List Nat)) (ks : List Nat) (K : List KF) (b : Bool) (L : List (Nat × Bool)) (c : Prop) (d : Option Nat) (o : RO) (nid nid' : Nat) (ops : List ROp) (F : XF) (st : Sto) (acc : Acc) : Prop :=
  match b with
  | true => G1 P e kss Q rows ks K (some (L, c)) d o nid nid' ops F st acc
  | false => G2 P e kss Q rows ks K (doX F L st nid o) L c d (nid :: rdX F L o) nid' ops F st acc
theorem G1_op {L : List (Nat × Bool)} {c : Prop} {d : Option Nat} {o : RO} {nid' : Nat} : G1 P e kss Q rows ks K (some (L, c)) d o nid nid' ops F st acc = O2 P e kss Q rows ks K (isCallR o) L c d o nid nid' ops F st acc := by
  cases h : isCallR o with
  | false => rw [G1_op0 h]; rfl
  | true => rfl
theorem O2_op {L : List (Nat × Bool)} {c : Prop} {d : Option Nat} {o : RO} {nid' : Nat} : O2 P e kss Q rows ks K false L c d o nid nid' ops F st acc = G2 P e kss Q rows ks K (doX F L st nid o) L c d (nid :: rdX F L o) nid' ops F st acc := _root_.id rfl
theorem O2_call {L : List (Nat × Bool)} {c : Prop} {d : Option Nat} {f : RV} {xs : List RV} {nid' : Nat} : O2 P e kss Q rows ks K true L c d (.call f xs) nid nid' ops F st acc =
    (accAll F L (f :: xs) = true ∧ C2 P e kss Q rows ks K L c (rhoX F L f) (xs.map (rhoX F L)) d nid' ops F st acc ∨ ¬ c ∧ accAll F L (f :: xs) = false ∧ C2 P e kss Q rows ks K L c (rhoX F L f) (xs.map (rhoX F L)) d nid' ops F st acc) := by
  unfold O2 G1 C2
  simp only [isCallR, if_true, callX, eq_iff_iff]
  cases hacc : accAll F L (f :: xs) with
  | true =>
    simp only [true_and, Bool.true_eq_false, false_and, and_false, or_false]
  | false =>
    simp only [Bool.false_eq_true, false_and, true_and, false_or]
    constructor
    · rintro ⟨val, wr, rd, h1, h2⟩; exact ⟨h1, val, wr, rd, fun h => absurd h h1, h2⟩
    · rintro ⟨h1, val, wr, rd, h2, h3⟩; exact ⟨val, wr, rd, h1, h3⟩
theorem G2_pure {L : List (Nat × Bool)} {c p : Prop} {val : T} {d : Option Nat} {rd : List Nat} : G2 P e kss Q rows ks K (some ⟨p, val, []⟩) L c d rd nid ops F st acc = ((c → p) ∧ R P e kss Q rows ks K nid ops (putX F d (.g L c val)) st (acc ++ [(rd, [])])) := _root_.id rfl
theorem G2_wr {L : List (Nat × Bool)} {c p : Prop} {val : T} {q : Nat × Ob} {qs : List (Nat × Ob)} {d : Option Nat} {rd : List Nat} : G2 P e kss Q rows ks K (some ⟨p, val, q :: qs⟩) L c d rd nid ops F st acc = ((c → p) ∧
    (c → R P e kss Q rows ks K nid ops (putX F d (.p val)) (stUp st (q :: qs)) (acc ++ [(rd, (q :: qs).map (·.1))])) ∧ (¬ c → R P e kss Q rows ks K nid ops (putX F d (.p (.v undef))) st (acc ++ [(rd, [])]))) := _root_.id rfl

/-! ### calls -/
theorem C1.im {fid : FuncId} {caps xs : List T} {r : T} {d : Option Nat} (hs : Spc P fid (xs ++ caps) [] r []) (h1 : imAL (xs ++ caps) = true) (h2 : imTup r = true)
    (h : R P e kss Q rows ks K nid ops (putX F d (.p r)) st (acc ++ [([], [])])) : C1 P e kss Q rows ks K (.clo fid caps) xs d nid ops F st acc := ⟨r, [], [], .im hs h1 h2, h⟩
theorem C2.im {L : List (Nat × Bool)} {c : Prop} {fid : FuncId} {caps xs : List T} {r : T} {d : Option Nat} (hs : c → Spc P fid (xs ++ caps) [] r []) (h1 : c → imAL (xs ++ caps) = true) (h2 : imTup r = true)
    (h : R P e kss Q rows ks K nid ops (putX F d (.g L c r)) st (acc ++ [([], [])])) : C2 P e kss Q rows ks K L c (.clo fid caps) xs d nid ops F st acc := ⟨r, [], [], fun hc => .im (hs hc) (h1 hc) h2, .inl ⟨rfl, h⟩⟩

/-! ### small equations -/
theorem get_nil' {α : Type} {i : Nat} : TL.get ([] : List (Nat × α)) i = none := _root_.id rfl
theorem get_cons' {α : Type} {j i : Nat} {x : α} {r : List (Nat × α)} : TL.get ((j, x) :: r) i = if j = i then some x else TL.get r i := _root_.id rfl
theorem putX_some {d : Nat} {x : En} : putX F (some d) x = (d, x) :: F := _root_.id rfl
theorem putX_none {x : En} : putX F none x = F := _root_.id rfl

def keep1 (t : Nat) (x : Option En) (r : List (Nat × T)) : List (Nat × T) := match x with
  | some (.p x) => (t, x) :: r
  | _ => r
theorem keepX_nil : keepX F [] = [] := _root_.id rfl
theorem keepX_cons {t : Nat} {r : List Nat} : keepX F (t :: r) = keep1 t (TL.get F t) (keepX F r) := by
  rw [keepX]; unfold keep1
  generalize TL.get F t = x
  cases x with
  | none => rfl
  | some x => cases x <;> rfl
theorem keep1_p {t : Nat} {x : T} {r : List (Nat × T)} : keep1 t (some (.p x)) r = (t, x) :: r := _root_.id rfl
theorem keep1_g {t : Nat} {L : List (Nat × Bool)} {c : Prop} {x : T} {r : List (Nat × T)} : keep1 t (some (.g L c x)) r = r := _root_.id rfl
theorem keep1_none {t : Nat} {r : List (Nat × T)} : keep1 t none r = r := _root_.id rfl

/-- an entry, read under labels -/
def rdE (L0 : List (Nat × Bool)) (x : Option En) : Option T :=
  match x with
  | none => some .junk
  | some (.p x) => some x
  | some (.g L _ x) => if L.all (fun p => L0.contains p) then some x else none
theorem accX_k {L : List (Nat × Bool)} {x : T} : accX F L (.k x) = some x := _root_.id rfl
theorem accX_t {L : List (Nat × Bool)} {n : Nat} : accX F L (.t n) = rdE L (TL.get F n) := by
  unfold accX rdE
  simp only
  generalize TL.get F n = x
  cases x with
  | none => rfl
  | some x => cases x <;> rfl
theorem rdE_p {L : List (Nat × Bool)} {x : T} : rdE L (some (.p x)) = some x := _root_.id rfl
theorem rdE_none {L : List (Nat × Bool)} : rdE L none = some .junk := _root_.id rfl
theorem rdE_g {L L0 : List (Nat × Bool)} {c : Prop} {x : T} : rdE L0 (some (.g L c x)) = if L.all (fun p => L0.contains p) then some x else none := _root_.id rfl

/-- a label found -/
def labE (t : Nat) (w : Bool) (x : Option En) : Option (List (Nat × Bool) × Prop) :=
  match x with
  | some (.p (.v (.bool b))) => some ([(t, w)], b = w)
  | some (.g L c (.v (.bool b))) => some ((t, w) :: L, c ∧ b = w)
  | _ => none
theorem labX_eq {t : Nat} {w : Bool} : labX F t w = labE t w (TL.get F t) := by
  unfold labX labE
  generalize TL.get F t = x
  cases x with
  | none => rfl
  | some x => cases x with
    | p x => cases x <;> first | rfl | (rename_i v; cases v <;> rfl)
    | g L c x => cases x <;> first | rfl | (rename_i v; cases v <;> rfl)
theorem labE_p {t : Nat} {w b : Bool} : labE t w (some (.p (.v (.bool b)))) = some ([(t, w)], b = w) := _root_.id rfl
theorem labE_g {t : Nat} {w b : Bool} {L : List (Nat × Bool)} {c : Prop} : labE t w (some (.g L c (.v (.bool b)))) = some ((t, w) :: L, c ∧ b = w) := _root_.id rfl

/-! ### operations, one by one -/
def on1 (x : Option T) (f : T → Option Res) : Option Res := match x with | some x => f x | none => none
def on2 (x y : Option T) (f : T → T → Option Res) : Option Res := match x, y with | some x, some y => f x y | _, _ => none
def onL : List (Option T) → Option (List T)
  | [] => some []
  | x :: r => match x, onL r with | some x, some l => some (x :: l) | _, _ => none
theorem on1_some {x : T} {f : T → Option Res} : on1 (some x) f = f x := _root_.id rfl
theorem on2_some {x y : T} {f : T → T → Option Res} : on2 (some x) (some y) f = f x y := _root_.id rfl

theorem doX_1 {L : List (Nat × Bool)} {o : RO} {x : RV} {f : T → Option Res} (hp : ∀ c a b, o ≠ .pick c a b) (h1 : o.rvs = [x]) (h2 : ∀ ρ, rT o ρ st nid = f (ρ x)) : doX F L st nid o = on1 (accX F L x) f := by
  unfold doX
  split
  · exact absurd rfl (hp _ _ _)
  · rw [h1, h2]
    simp only [accAll, Bool.and_true, rhoX]
    cases accX F L x <;> simp [on1]
theorem doX_2 {L : List (Nat × Bool)} {o : RO} {x y : RV} {f : T → T → Option Res} (hp : ∀ c a b, o ≠ .pick c a b) (h1 : o.rvs = [x, y]) (h2 : ∀ ρ, rT o ρ st nid = f (ρ x) (ρ y)) : doX F L st nid o = on2 (accX F L x) (accX F L y) f := by
  unfold doX
  split
  · exact absurd rfl (hp _ _ _)
  · rw [h1, h2]
    simp only [accAll, Bool.and_true, rhoX]
    cases accX F L x <;> cases accX F L y <;> simp [on2]

def boxR (st : Sto) (nid : Nat) (z : T) : Option Res := some ⟨TL.get st nid = none ∧ lives st z.cells, .ptr nid 1 0 0, [(nid, .arr z.cells.length [z] false)]⟩

theorem doX_mv {L : List (Nat × Bool)} {x : RV} : doX F L st nid (.mv x) = on1 (accX F L x) ret := doX_1 (by intros; simp) rfl fun _ => rfl
theorem doX_new {L : List (Nat × Bool)} {z : T} : doX F L st nid (.new z) = boxR st nid z := by simp [doX, RO.rvs, accAll, rT, boxR]
theorem doX_box {L : List (Nat × Bool)} {x : RV} : doX F L st nid (.box x) = on1 (accX F L x) (boxR st nid) := doX_1 (by intros; simp) rfl fun _ => rfl
theorem doX_ld {L : List (Nat × Bool)} {l : Option Nat} {x : RV} : doX F L st nid (.ld l x) = on1 (accX F L x) (ldR l st) := doX_1 (by intros; simp) rfl fun _ => rfl
theorem doX_st {L : List (Nat × Bool)} {n : Nat} {x y : RV} : doX F L st nid (.st n x y) = on2 (accX F L x) (accX F L y) (stR n st) := doX_2 (by intros; simp) rfl fun _ => rfl
theorem doX_nc {L : List (Nat × Bool)} {x : RV} : doX F L st nid (.nc x) = on1 (accX F L x) (nilCheckT st) := doX_1 (by intros; simp) rfl fun _ => rfl
theorem doX_bin {L : List (Nat × Bool)} {op : BinOp} {ib : Bool} {x y : RV} : doX F L st nid (.bin op ib x y) = on2 (accX F L x) (accX F L y) (binR op ib) := doX_2 (by intros; simp) rfl fun _ => rfl
theorem doX_un {L : List (Nat × Bool)} {op : UnOp} {x : RV} : doX F L st nid (.un op x) = on1 (accX F L x) (unT op) := doX_1 (by intros; simp) rfl fun _ => rfl
theorem doX_cvI {L : List (Nat × Bool)} {k : IntKind} {x : RV} : doX F L st nid (.cvI k x) = on1 (accX F L x) (cvIR k) := doX_1 (by intros; simp) rfl fun _ => rfl
theorem doX_cvSS {L : List (Nat × Bool)} {x : RV} : doX F L st nid (.cvSS x) = on1 (accX F L x) cvSSR := doX_1 (by intros; simp) rfl fun _ => rfl
theorem doX_cvSB {L : List (Nat × Bool)} {x : RV} : doX F L st nid (.cvSB x) = on1 (accX F L x) cvSBR := doX_1 (by intros; simp) rfl fun _ => rfl
theorem doX_cvBS {L : List (Nat × Bool)} {x : RV} : doX F L st nid (.cvBS x) = on1 (accX F L x) (cvBSR st) := doX_1 (by intros; simp) rfl fun _ => rfl
theorem doX_mk {L : List (Nat × Bool)} {k b : Nat} {z : T} {x y : RV} : doX F L st nid (.mk k b z x y) = on2 (accX F L x) (accX F L y) (mkR k b z st nid) := doX_2 (by intros; simp) rfl fun _ => rfl
theorem doX_fa {L : List (Nat × Bool)} {off : Nat} {x : RV} : doX F L st nid (.fa off x) = on1 (accX F L x) (faR off st) := doX_1 (by intros; simp) rfl fun _ => rfl
theorem doX_fld {L : List (Nat × Bool)} {off : Nat} {l : Option Nat} {x : RV} : doX F L st nid (.fld off l x) = on1 (accX F L x) (fldR off l) := doX_1 (by intros; simp) rfl fun _ => rfl
theorem doX_ixL {L : List (Nat × Bool)} {k : Nat} {x y : RV} : doX F L st nid (.ixL k x y) = on2 (accX F L x) (accX F L y) (ixLR k st) := doX_2 (by intros; simp) rfl fun _ => rfl
theorem doX_ixA {L : List (Nat × Bool)} {n k : Nat} {x y : RV} : doX F L st nid (.ixA n k x y) = on2 (accX F L x) (accX F L y) (ixAR n k st) := doX_2 (by intros; simp) rfl fun _ => rfl
theorem doX_sx {L : List (Nat × Bool)} {x y : RV} : doX F L st nid (.sx x y) = on2 (accX F L x) (accX F L y) sxR := doX_2 (by intros; simp) rfl fun _ => rfl
theorem doX_ex {L : List (Nat × Bool)} {x : RV} {i : Nat} : doX F L st nid (.ex x i) = on1 (accX F L x) (fun x => extractT x i) := doX_1 (by intros; simp) rfl fun _ => rfl
theorem doX_lenS {L : List (Nat × Bool)} {x : RV} : doX F L st nid (.lenS x) = on1 (accX F L x) lenSR := doX_1 (by intros; simp) rfl fun _ => rfl
theorem doX_lenL {L : List (Nat × Bool)} {x : RV} : doX F L st nid (.lenL x) = on1 (accX F L x) (lenLR st) := doX_1 (by intros; simp) rfl fun _ => rfl
theorem doX_app {L : List (Nat × Bool)} {k b : Nat} {str : Bool} {x y : RV} : doX F L st nid (.app k b str x y) = on2 (accX F L x) (accX F L y) (appR k b str st nid) := doX_2 (by intros; simp) rfl fun _ => rfl

def pickX (c a b : Option T) : Option Res := match c, a, b with
  | some (.v (.bool q)), some x, some y => ret (mrg q x y)
  | _, _, _ => none
theorem doX_pick {L : List (Nat × Bool)} {c a b : RV} : doX F L st nid (.pick c a b) = pickX (accX F L c) (accX F (sideL c true L) a) (accX F (sideL c false L) b) := by
  simp only [doX]
  generalize accX F L c = x
  generalize accX F (sideL c true L) a = y
  generalize accX F (sideL c false L) b = z
  unfold pickX
  split
  · rfl
  · rename_i h
    split
    · exact absurd rfl (h _ _ _ rfl rfl)
    · rfl
theorem pickX_some {q : Bool} {x y : T} : pickX (some (.v (.bool q))) (some x) (some y) = ret (mrg q x y) := _root_.id rfl
theorem sideL_t {d : Nat} {b : Bool} {L : List (Nat × Bool)} : sideL (.t d) b L = (d, b) :: L := _root_.id rfl
theorem sideL_k {x : T} {b : Bool} {L : List (Nat × Bool)} : sideL (.k x) b L = L := _root_.id rfl
theorem rhoX_k {L : List (Nat × Bool)} {x : T} : rhoX F L (.k x) = x := _root_.id rfl
theorem rhoX_t {L : List (Nat × Bool)} {n : Nat} : rhoX F L (.t n) = (rdE L (TL.get F n)).getD .junk := by simp only [rhoX, accX_t]
theorem rv_t {n : Nat} : rv fr (.t n) = (TL.get fr n).getD .junk := _root_.id rfl
theorem rv_k {x : T} : rv fr (.k x) = x := _root_.id rfl
theorem accAll_nil {L : List (Nat × Bool)} : accAll F L [] = true := _root_.id rfl
theorem accAll_cons {L : List (Nat × Bool)} {x : RV} {l : List RV} : accAll F L (x :: l) = ((accX F L x).isSome && accAll F L l) := _root_.id rfl

/-! integers -/
theorem bin_int {op : BinOp} {ib : Bool} {k : IntKind} {a b : Int} : binR op ib (.v (.int k a)) (.v (.int k b)) = intT op k a b := by simp [binR]
theorem bin_str {op : BinOp} {ib : Bool} {a b : ByteArray} : binR op ib (.v (.string a)) (.v (.string b)) = strT op a b := _root_.id rfl
theorem bin_eql {a b : Bool} : binR .eql true (.v (.bool a)) (.v (.bool b)) = retB (a == b) := _root_.id rfl
theorem bin_neq {a b : Bool} : binR .neq true (.v (.bool a)) (.v (.bool b)) = retB (a != b) := _root_.id rfl
theorem cvI_int {k k' : IntKind} {n : Int} : cvIR k (.v (.int k' n)) = retI k (k.wrap n) := _root_.id rfl
theorem mrg_bool {q a b : Bool} : mrg q (.v (.bool a)) (.v (.bool b)) = .v (.bool (bif q then a else b)) := _root_.id rfl
theorem mrg_int {q : Bool} {k : IntKind} {a b : Int} : mrg q (.v (.int k a)) (.v (.int k b)) = .v (.int k (bif q then a else b)) := by simp [mrg]
end
end Go.TL
