/- Operations with what they ask of the program's types already looked up: a short form of the code, that no longer names the program. -/
import Derived.Test.YtnejebkdlofdoaaZzCode
namespace Go.TL
set_option linter.unusedSimpArgs false
set_option linter.unusedVariables false

/-- an operand: a temporary, a constant -/
inductive RV where
  | t (n : Nat)
  | k (x : T)

def rv (fr : List (Nat × T)) : RV → T
  | .t n => (get fr n).getD .junk
  | .k x => x

def cT : Value → T
  | .agg cs => .agg (cs.toList.map .v)
  | v => .v v

def toRV : Operand → RV
  | .tmp t => .t t
  | .const v => .k (cT v)
  | .global _ => .k .junk
  | .func f => .k (.clo f [])

theorem rv_toRV (s : St) (x : Operand) : rv s.fr (toRV x) = Operand.t s x := by
  cases x with
  | const v => cases v <;> rfl
  | _ => rfl

inductive RO where
  | mv (x : RV)
  | pick (c a b : RV)
  | new (z : T)
  | box (x : RV)
  | build (z : List T) (pl : List ((Nat × Nat) × RV))
  | bsl (k len : Nat) (xs : List RV)
  | ld (l : Option Nat) (x : RV)
  | st (n : Nat) (x y : RV)
  | nc (x : RV)
  | bin (op : BinOp) (ib : Bool) (x y : RV)
  | un (op : UnOp) (x : RV)
  | cvI (k : IntKind) (x : RV)
  | cvSS (x : RV)
  | cvSB (x : RV)
  | cvBS (x : RV)
  | mf (f : FuncId) (caps : List RV)
  | mk (k b : Nat) (z : T) (l c : RV)
  | slS (x : RV) (lo hi : Option RV)
  | slL (k : Nat) (x : RV) (lo hi : Option RV)
  | fa (off : Nat) (x : RV)
  | fld (off : Nat) (l : Option Nat) (x : RV)
  | ixL (k : Nat) (x i : RV)
  | ixA (n k : Nat) (x i : RV)
  | sx (x i : RV)
  | ex (x : RV) (i : Nat)
  | lenS (x : RV)
  | lenL (x : RV)
  | lenA (n : Nat) (x : RV)
  | app (k b : Nat) (str : Bool) (x y : RV)
  | mn (xs : List RV)
  | mx (xs : List RV)
  | call (f : RV) (xs : List RV)
  | ext (x : XO) (xs : List RV)

def RO.rvs : RO → List RV
  | .mv x | .box x | .ld _ x | .nc x | .un _ x | .cvI _ x | .cvSS x | .cvSB x | .cvBS x | .fa _ x | .fld _ _ x | .ex x _ | .lenS x | .lenL x | .lenA _ x => [x]
  | .pick c a b => [c, a, b]
  | .new _ => []
  | .build _ pl => pl.map (·.2)
  | .bsl _ _ xs => xs
  | .st _ x y | .bin _ _ x y | .ixL _ x y | .ixA _ _ x y | .sx x y | .app _ _ _ x y | .mk _ _ _ x y => [x, y]
  | .mf _ caps => caps
  | .slS x lo hi | .slL _ x lo hi => x :: (lo.toList ++ hi.toList)
  | .mn xs | .mx xs | .ext _ xs => xs
  | .call f xs => f :: xs

/-! ### what they do -/
def ldR (l : Option Nat) (st : Sto) (x : T) : Option Res :=
  match x with
  | .ptr id m i j => match get st id with
    | some (.arr k xs _) => some ⟨xs.length = m ∧ i < xs.length ∧ need l j ≤ k, partT l j (xs.getD i .junk).cells, []⟩
    | _ => none
  | .ip cs => some ⟨need l 0 ≤ cs.length, partT l 0 cs, []⟩
  | _ => none
def stR (n : Nat) (st : Sto) (x v : T) : Option Res :=
  match x with
  | .ptr id m i j => match get st id with
    | some (.arr k xs false) => some ⟨xs.length = m ∧ i < xs.length ∧ v.cells.length = n ∧ j + n ≤ k ∧ replOk (xs.getD i .junk) v ∧ lives st v.cells, .v undef, [(id, .arr k (xs.set i (repl (xs.getD i .junk) j v)) false)]⟩
    | _ => none
  | _ => none
def fillR (cells : List T) : List ((Nat × Nat) × T) → Option (List T)
  | [] => some cells
  | ((off, n), x) :: r => if x.cells.length = n ∧ off + n ≤ cells.length then fillR (cells.take off ++ x.cells ++ cells.drop (off + n)) r else none
def allLv (st : Sto) : List T → Prop
  | [] => True
  | x :: r => lives st x.cells ∧ allLv st r
def binR (op : BinOp) (ib : Bool) (x y : T) : Option Res :=
  match x, y with
  | .v (.int k a), .v (.int k' b) => if isShift op || k == k' then intT op k a b else none
  | .v (.string a), .v (.string b) => strT op a b
  | .v (.bool a), .v (.bool b) => if ib then (match op with | .eql => retB (a == b) | .neq => retB (a != b) | _ => none) else none
  | _, _ => none
def cvIR (k : IntKind) (x : T) : Option Res := match x with | .v (.int _ n) => retI k (k.wrap n) | _ => none
def cvSSR (x : T) : Option Res := match x with | .v (.string s) => ret (.v (.string s)) | _ => none
def cvSBR (x : T) : Option Res := match x with | .v (.string s) => ret (.sl 1 (s.data.toList.map byteT)) | _ => none
def cvBSR (st : Sto) (x : T) : Option Res :=
  match conT st x with
  | some (_, xs) => some ⟨conS st x ∧ ∀ y ∈ xs, isByte y = true, .v (.string ⟨(xs.map unbyte).toArray⟩), []⟩
  | none => none
def mkR (k b : Nat) (z : T) (st : Sto) (nid : Nat) (l c : T) : Option Res :=
  match l, c with
  | .v (.int _ n), .v (.int _ m) =>
      some ⟨get st nid = none ∧ 0 ≤ n ∧ n ≤ m ∧ b * m.toNat ≤ 140737488355328 ∧ m ≤ 9223372036854775807 ∧ z.cells.length = k ∧ lives [] z.cells, .asl nid n.toNat, [(nid, .arr k (List.replicate n.toNat z) false)]⟩
  | _, _ => none
def slSR (x : T) (lo hi : Option T) : Option Res :=
  match bndT lo, bndT hi, x with
  | some l, some h, .v (.string s) => some ⟨0 ≤ lowT l ∧ lowT l ≤ highT s.size h ∧ highT s.size h ≤ s.size, .v (.string (s.extract (lowT l).toNat (highT s.size h).toNat)), []⟩
  | _, _, _ => none
def slLR (k' : Nat) (st : Sto) (x : T) (lo hi : Option T) : Option Res :=
  match bndT lo, bndT hi, x with
  | some l, some h, .sl k xs => if k = k' then some ⟨0 ≤ lowT l ∧ lowT l ≤ highT xs.length h ∧ highT xs.length h ≤ xs.length, .sl k (cutT (lowT l) (highT xs.length h) xs), []⟩ else none
  | some l, some h, .asl id m => match get st id with
    | some (.arr k xs fz) => if k = k' then some ⟨xs.length = m ∧ allIm xs ∧ 0 ≤ lowT l ∧ lowT l ≤ highT xs.length h ∧ highT xs.length h ≤ xs.length, .sl k (cutT (lowT l) (highT xs.length h) xs), [(id, .arr k xs true)]⟩ else none
    | _ => none
  | some l, some h, .v (.slice none 0 0) => some ⟨lowT l = 0 ∧ highT 0 h = 0, .v (.slice none 0 0), []⟩
  | some l, some h, .vw id m lo len => match get st id with
    | some (.arr k xs _) => if k = k' then some ⟨xs.length = m ∧ 0 ≤ lowT l ∧ lowT l ≤ highT len h ∧ lo + highT len h ≤ m, .vw id m (lo + (lowT l).toNat) ((highT len h).toNat - (lowT l).toNat), []⟩ else none
    | _ => none
  | _, _, _ => none
def faR (off : Nat) (st : Sto) (x : T) : Option Res :=
  match x with
  | .ptr id m i j => some ⟨validId st id m, .ptr id m i (j + off), []⟩
  | .ip cs => some ⟨off ≤ cs.length, .ip (cs.drop off), []⟩
  | _ => none
def fldR (off : Nat) (l : Option Nat) (x : T) : Option Res :=
  match x with
  | .agg cs => some ⟨need l off ≤ cs.length, partT l off cs, []⟩
  | _ => none
def ixLR (k : Nat) (st : Sto) (x i : T) : Option Res :=
  match i, x with
  | .v (.int _ n), .sl k' xs => if k' = k then some ⟨0 ≤ n ∧ n < xs.length, .ip (xs.getD n.toNat .junk).cells, []⟩ else none
  | .v (.int _ n), .asl id m => match get st id with
    | some (.arr k' xs _) => if k' = k then some ⟨xs.length = m ∧ 0 ≤ n ∧ n < m, .ptr id m n.toNat 0, []⟩ else none
    | _ => none
  | .v (.int _ n), .vw id m lo len => match get st id with
    | some (.arr k' xs _) => if k' = k then some ⟨xs.length = m ∧ 0 ≤ n ∧ n < len, .ptr id m (lo + n.toNat) 0, []⟩ else none
    | _ => none
  | _, _ => none
def ixAR (len k : Nat) (st : Sto) (x i : T) : Option Res :=
  match i, x with
  | .v (.int _ n), .ptr id m i j => some ⟨0 ≤ n ∧ n < len ∧ validId st id m, .ptr id m i (j + n.toNat * k), []⟩
  | .v (.int _ n), .ip cs => some ⟨0 ≤ n ∧ n < len, .ip (cs.drop (n.toNat * k)), []⟩
  | _, _ => none
def sxR (x i : T) : Option Res :=
  match x, i with
  | .v (.string s), .v (.int _ n) => some ⟨0 ≤ n ∧ n < s.size, .v (.int .u8 (s.data.toList.getD n.toNat 0).toNat), []⟩
  | _, _ => none
def lenSR (x : T) : Option Res := match x with | .v (.string s) => retI .i64 s.size | _ => none
def lenLR (st : Sto) (x : T) : Option Res :=
  match x with
  | .asl id m => some ⟨validId st id m, .v (.int .i64 m), []⟩
  | .sl _ xs => retI .i64 xs.length
  | .v (.slice none 0 0) => retI .i64 0
  | .vw id m lo len => some ⟨validId st id m, .v (.int .i64 len), []⟩
  | _ => none
def appYR (str : Bool) (st : Sto) (y : T) : Option (Option Nat × List T) :=
  if str then (match y with | .v (.string s) => some (some 1, s.data.toList.map byteT) | _ => none) else conT st y
def appR (k by_ : Nat) (str : Bool) (st : Sto) (nid : Nat) (x y : T) : Option Res :=
  match appYR str st y with
  | some (k', ys) =>
    if (k' = none ∨ k' = some k) then
      match x with
      | .asl id m => match get st id with
        | some (.arr k0 xs fz) => if k0 = k then
            some ⟨xs.length = m ∧ conS st y ∧ 0 < by_ ∧ (m + ys.length) * by_ ≤ 140737488355328, .asl id (m + ys.length), [(id, .arr k (xs ++ ys) fz)]⟩ else none
        | _ => none
      | .v (.slice none 0 0) => some ⟨get st nid = none ∧ conS st y ∧ 0 < by_ ∧ ys.length * by_ ≤ 140737488355328, .asl nid ys.length, [(nid, .arr k ys false)]⟩
      | .vw id m lo len => match get st id with
        | some (.arr k0 xs false) => if k0 = k then
            some ⟨xs.length = m ∧ conS st y ∧ lo < m ∧ lo + len + ys.length ≤ m, .vw id m lo (len + ys.length), [(id, .arr k (xs.take (lo + len) ++ ys ++ xs.drop (lo + len + ys.length)) false)]⟩ else none
        | _ => none
      | _ => none
    else none
  | none => none

def rT (ro : RO) (ρ : RV → T) (st : Sto) (nid : Nat) : Option Res :=
  match ro with
  | .mv x => ret (ρ x)
  | .pick c a b => pickT (ρ c) (ρ a) (ρ b)
  | .new z => some ⟨get st nid = none ∧ lives st z.cells, .ptr nid 1 0 0, [(nid, .arr z.cells.length [z] false)]⟩
  | .box x => some ⟨get st nid = none ∧ lives st (ρ x).cells, .ptr nid 1 0 0, [(nid, .arr (ρ x).cells.length [ρ x] false)]⟩
  | .build z pl => match fillR z (pl.map fun p => (p.1, ρ p.2)) with
    | some cs => some ⟨allLv st (pl.map fun p => ρ p.2), .agg cs, []⟩
    | none => none
  | .bsl k len xs => some ⟨get st nid = none ∧ allLv st (xs.map ρ) ∧ lenAll k (xs.map ρ), .asl nid len, [(nid, .arr k (xs.map ρ) false)]⟩
  | .ld l x => ldR l st (ρ x)
  | .st n x y => stR n st (ρ x) (ρ y)
  | .nc x => nilCheckT st (ρ x)
  | .bin op ib x y => binR op ib (ρ x) (ρ y)
  | .un op x => unT op (ρ x)
  | .cvI k x => cvIR k (ρ x)
  | .cvSS x => cvSSR (ρ x)
  | .cvSB x => cvSBR (ρ x)
  | .cvBS x => cvBSR st (ρ x)
  | .mf f caps => ret (.clo f (caps.map ρ))
  | .mk k b z l c => mkR k b z st nid (ρ l) (ρ c)
  | .slS x lo hi => slSR (ρ x) (lo.map ρ) (hi.map ρ)
  | .slL k x lo hi => slLR k st (ρ x) (lo.map ρ) (hi.map ρ)
  | .fa off x => faR off st (ρ x)
  | .fld off l x => fldR off l (ρ x)
  | .ixL k x i => ixLR k st (ρ x) (ρ i)
  | .ixA n k x i => ixAR n k st (ρ x) (ρ i)
  | .sx x i => sxR (ρ x) (ρ i)
  | .ex x i => extractT (ρ x) i
  | .lenS x => lenSR (ρ x)
  | .lenL x => lenLR st (ρ x)
  | .lenA n x => retI .i64 n
  | .app k b str x y => appR k b str st nid (ρ x) (ρ y)
  | .mn xs => foldT minI (xs.map ρ)
  | .mx xs => foldT maxI (xs.map ρ)
  | .call _ _ => none
  | .ext x xs => extR x st nid (xs.map ρ)

/-! ### looking up -/
def placesR (P : Program) (t : TypeId) : List (Nat × Operand) → Option (List ((Nat × Nat) × RV))
  | [] => some []
  | (i, x) :: r => match plT P t i, placesR P t r with
    | some p, some l => some ((p, toRV x) :: l)
    | _, _ => none

def rsvB (P : Program) (b : Builtin) (args : List Operand) (tys : List TypeId) : Option RO :=
  match b, args, tys with
  | .len, [x], [ty] => match P.underlying ty with
    | some .string => some (.lenS (toRV x))
    | some (.slice _) => some (.lenL (toRV x))
    | some (.array n _) => some (.lenA n (toRV x))
    | _ => none
  | .append, [x, y], [t0, t1] => match ixT P t0, byT P t0, zrOk P t0, P.underlying t1 with
    | some (none, k), some b, true, some .string => some (.app k b true (toRV x) (toRV y))
    | some (none, k), some b, true, some (.slice _) => some (.app k b false (toRV x) (toRV y))
    | _, _, _, _ => none
  | .min, args, _ => some (.mn (args.map toRV))
  | .max, args, _ => some (.mx (args.map toRV))
  | _, _, _ => none

def rsvO0 (P : Program) (o : Op) : Option RO :=
  match o with
  | .move x => some (.mv (toRV x))
  | .assign x => some (.mv (toRV x))
  | .pick c a b => some (.pick (toRV c) (toRV a) (toRV b))
  | .alloc t => (zrT P t).map fun z => .new z
  | .box _ x => some (.box (toRV x))
  | .build t parts => match zrT P t, fsOk P t, placesR P t parts.toList with
    | some z, true, some pl => some (.build z.cells pl)
    | _, _, _ => none
  | .buildSlice t len parts => match ixT P t, zrOk P t, inOrder 0 parts.toList with
    | some (none, k), true, true => if parts.size = len ∧ len * k ≤ 16777216 ∧ len ≤ 16777216 then some (.bsl k len (parts.toList.map fun p => toRV p.2)) else none
    | _, _, _ => none
  | .load t x => (ldT P t).map fun l => .ld l (toRV x)
  | .store t x y => (szT P t).map fun n => .st n (toRV x) (toRV y)
  | .nilCheck x => some (.nc (toRV x))
  | .binOp op ty x y _ => some (.bin op (isBoolT P ty) (toRV x) (toRV y))
  | .unOp op _ x => some (.un op (toRV x))
  | .convert src dst x => match P.underlying src, P.underlying dst with
    | some _, some (.int k) => some (.cvI k (toRV x))
    | some (.slice el), some .string => if isU8 P el then some (.cvBS (toRV x)) else none
    | some _, some .string => some (.cvSS (toRV x))
    | some _, some (.slice el) => if isU8 P el then some (.cvSB (toRV x)) else none
    | _, _ => none
  | .makeFunc (.func f) first caps => if first.size = 0 then some (.mf f (caps.toList.map toRV)) else none
  | .makeSlice ty x y => match P.underlying ty with
    | some (.slice el) => match zrT P el, szT P el, byT P ty with
      | some z, some k, some b => some (.mk k b z (toRV x) (toRV y))
      | _, _, _ => none
    | _ => none
  | .slice ty x lo hi none => match P.underlying ty, ixT P ty with
    | some .string, _ => some (.slS (toRV x) (lo.map toRV) (hi.map toRV))
    | _, some (none, k) => some (.slL k (toRV x) (lo.map toRV) (hi.map toRV))
    | _, _ => none
  | .fieldAddr ty x f => match fdT P ty f with
    | some (off, n, _) => if n = 0 then none else some (.fa off (toRV x))
    | none => none
  | .field ty x f => match fdT P ty f with
    | some (off, _, l) => some (.fld off l (toRV x))
    | none => none
  | .indexAddr ty x i => match ixT P ty with
    | some (none, k) => some (.ixL k (toRV x) (toRV i))
    | some (some n, k) => some (.ixA n k (toRV x) (toRV i))
    | none => none
  | .index ty x i => match P.underlying ty with
    | some .string => some (.sx (toRV x) (toRV i))
    | _ => none
  | .extract x i => some (.ex (toRV x) i)
  | .call { callee := .builtin b, args, argTypes } => rsvB P b args.toList argTypes.toList
  | .call { callee := .value f, args, argTypes } => some (.call (toRV f) (args.toList.map toRV))
  | _ => none

def rsvO (P : Program) (o : Op) : Option RO :=
  match rsvX P o with
  | some x => some (.ext x (o.operands.toList.map toRV))
  | none => rsvO0 P o

def isCallR : RO → Bool
  | .call .. => true
  | _ => false

section
variable {P : Program}

theorem rv_map (s : St) (l : List Operand) : (l.map toRV).map (rv s.fr) = l.map (Operand.t s) := by
  rw [List.map_map]; exact List.map_congr_left fun x _ => rv_toRV s x

theorem placesR_spec {t : TypeId} : ∀ {parts : List (Nat × Operand)} {pl : List ((Nat × Nat) × RV)}, placesR P t parts = some pl → pl.map (·.2) = parts.map (fun p => toRV p.2) ∧
    ∀ (s : St) (cells : List T), fillT (plT P t) cells (parts.map fun p => (p.1, Operand.t s p.2)) = fillR cells (pl.map fun p => (p.1, rv s.fr p.2))
  | [], pl, h => by
    simp only [placesR, Option.some.injEq] at h; subst h
    exact ⟨rfl, fun s cells => rfl⟩
  | (i, x) :: r, pl, h => by
    simp only [placesR] at h
    split at h
    · rename_i p l h1 h2
      injection h with h; subst h
      obtain ⟨g1, g2⟩ := placesR_spec h2
      refine ⟨by simp [g1], fun s cells => ?_⟩
      obtain ⟨off, n⟩ := p
      simp only [List.map_cons, fillT, h1, fillR, rv_toRV]
      split
      · exact g2 s _
      · rfl
    · cases h

theorem allLv_eq (st : Sto) (l : List (Nat × T)) : allLive st l = allLv st (l.map (·.2)) := by
  induction l with
  | nil => rfl
  | cons p r ih => simp only [allLive, List.map_cons, allLv, ih]

theorem binT_eq (op : BinOp) (ty : TypeId) (x y : T) : binT P op ty x y = binR op (isBoolT P ty) x y := rfl

theorem convT_i {st : Sto} {src dst : TypeId} {x : T} {d : TypeDesc} {k : IntKind} (h1 : P.underlying src = some d) (h2 : P.underlying dst = some (.int k)) : convT P st src dst x = cvIR k x := by
  unfold convT; rw [h1, h2]; rfl
theorem convT_bs {st : Sto} {src dst : TypeId} {x : T} {el : TypeId} (h1 : P.underlying src = some (.slice el)) (h2 : P.underlying dst = some .string) (hu : isU8 P el = true) : convT P st src dst x = cvBSR st x := by
  unfold convT cvBSR; rw [h1, h2]
  cases conT st x with
  | none => rfl
  | some p => simp only [hu, if_true]
theorem convT_ss {st : Sto} {src dst : TypeId} {x : T} {d : TypeDesc} (h1 : P.underlying src = some d) (hd : ∀ el, d ≠ .slice el) (h2 : P.underlying dst = some .string) : convT P st src dst x = cvSSR x := by
  unfold convT; rw [h1, h2]
  cases d <;> first | rfl | exact absurd rfl (hd _)
theorem convT_sb {st : Sto} {src dst : TypeId} {x : T} {d : TypeDesc} {el : TypeId} (h1 : P.underlying src = some d) (h2 : P.underlying dst = some (.slice el)) (hu : isU8 P el = true) : convT P st src dst x = cvSBR x := by
  unfold convT cvSBR; rw [h1, h2]
  cases x <;> first | rfl | (rename_i v; cases v <;> first | rfl | simp only [hu, if_true])

theorem sliceT_s {st : Sto} {ty : TypeId} {x : T} {lo hi : Option T} (hu : P.underlying ty = some .string) {r : Res} (h : slSR x lo hi = some r) : sliceT P st ty x lo hi = some r := by
  unfold slSR at h
  split at h
  · rename_i l hh str h1 h2
    unfold sliceT
    rw [h1, h2]
    simp only [hu]
    exact h
  · cases h
theorem sliceT_l {st : Sto} {ty : TypeId} {k : Nat} {x : T} {lo hi : Option T} (hix : ixT P ty = some (none, k)) {r : Res} (h : slLR k st x lo hi = some r) : sliceT P st ty x lo hi = some r := by
  unfold slLR at h
  split at h
  · rename_i l hh k' xs h1 h2
    unfold sliceT
    rw [h1, h2]
    simp only [hix]
    exact h
  · rename_i l hh id m h1 h2
    unfold sliceT
    rw [h1, h2]
    simp only [hix]
    split at h
    · rename_i hg; simp only [hg]; exact h
    · cases h
  · rename_i l hh h1 h2
    unfold sliceT
    rw [h1, h2]
    simp only [hix]
    exact h
  · rename_i l hh id m lo len h1 h2
    unfold sliceT
    rw [h1, h2]
    simp only [hix]
    split at h
    · rename_i hg; simp only [hg]; exact h
    · cases h
  · cases h

theorem fieldAddrT_r {st : Sto} {ty : TypeId} {x : T} {f off n : Nat} {l : Option Nat} (hf : fdT P ty f = some (off, n, l)) (hn : n ≠ 0) {r : Res} (h : faR off st x = some r) : ∃ r', fieldAddrT P st ty x f = some r' ∧ r'.val = r.val ∧ r'.wr = r.wr ∧ (r.side → r'.side) := by
  unfold faR at h
  unfold fieldAddrT
  rw [hf]
  split at h
  · injection h with h; subst h; exact ⟨_, rfl, rfl, rfl, fun h => ⟨hn, h⟩⟩
  · injection h with h; subst h; exact ⟨_, rfl, rfl, rfl, fun h => ⟨hn, h⟩⟩
  · cases h
theorem fieldT_r {ty : TypeId} {x : T} {f off n : Nat} {l : Option Nat} (hf : fdT P ty f = some (off, n, l)) {r : Res} (h : fldR off l x = some r) : fieldT P ty x f = some r := by
  unfold fldR at h
  unfold fieldT
  rw [hf]
  split at h
  · exact h
  · cases h
theorem ixT_l {st : Sto} {ty : TypeId} {k : Nat} {x i : T} (hix : ixT P ty = some (none, k)) {r : Res} (h : ixLR k st x i = some r) : indexAddrT P st ty x i = some r := by
  unfold ixLR at h
  unfold indexAddrT
  rw [hix]
  split at h
  · exact h
  · exact h
  · exact h
  · cases h
theorem ixT_a {st : Sto} {ty : TypeId} {n k : Nat} {x i : T} (hix : ixT P ty = some (some n, k)) {r : Res} (h : ixAR n k st x i = some r) : indexAddrT P st ty x i = some r := by
  unfold ixAR at h
  unfold indexAddrT
  rw [hix]
  split at h
  · exact h
  · exact h
  · cases h
theorem indexT_r {ty : TypeId} {x i : T} (hu : P.underlying ty = some .string) {r : Res} (h : sxR x i = some r) : indexT P ty x i = some r := by
  unfold sxR at h
  unfold indexT
  rw [hu]
  split at h
  · exact h
  · cases h
theorem lenT_s {st : Sto} {ty : TypeId} {x : T} (hu : P.underlying ty = some .string) {r : Res} (h : lenSR x = some r) : lenT P st ty x = some r := by
  unfold lenSR at h
  unfold lenT
  rw [hu]
  split at h
  · exact h
  · cases h
theorem lenT_l {st : Sto} {ty el : TypeId} {x : T} (hu : P.underlying ty = some (.slice el)) {r : Res} (h : lenLR st x = some r) : lenT P st ty x = some r := by
  unfold lenLR at h
  unfold lenT
  rw [hu]
  split at h
  · exact h
  · exact h
  · exact h
  · exact h
  · cases h
theorem lenT_a {st : Sto} {ty el : TypeId} {n : Nat} {x : T} (hu : P.underlying ty = some (.array n el)) : lenT P st ty x = retI .i64 n := by
  unfold lenT
  rw [hu]
theorem appendT_r {s : St} {nid : Nat} {t0 t1 : TypeId} {k b : Nat} {str : Bool} {x y : T} (h0 : ixT P t0 = some (none, k)) (h1 : byT P t0 = some b) (h2 : zrOk P t0 = true)
    (h3 : appY P s.st t1 y = appYR str s.st y) {r : Res} (h : appR k b str s.st nid x y = some r) : appendT P s nid t0 t1 x y = some r := by
  unfold appR at h
  unfold appendT
  rw [h0, h1, h2, h3]
  split at h
  · rename_i k' ys hy
    rw [hy]
    exact h
  · cases h

theorem makeT_r {s : St} {nid : Nat} {ty el : TypeId} {k b : Nat} {z l c : T} (hu : P.underlying ty = some (.slice el)) (h1 : zrT P el = some z) (h2 : szT P el = some k) (h3 : byT P ty = some b) {r : Res} (h : mkR k b z s.st nid l c = some r) : makeT P s nid ty l c = some r := by
  unfold mkR at h
  unfold makeT
  rw [hu]
  simp only [h1, h2, h3]
  split at h
  · exact h
  · cases h

theorem opT_rsv0 {o : Oper} {ro : RO} {s : St} {nid : Nat} (h : rsvO0 P o.op = some ro) (hc : isCallR ro = false) {r : Res} (hr : rT ro (rv s.fr) s.st nid = some r) : ∃ r', opT0 P s nid o = some r' ∧ r'.val = r.val ∧ r'.wr = r.wr ∧ (r.side → r'.side) := by
  have same : ∀ {x : Option Res}, x = some r → (∃ r', x = some r' ∧ r'.val = r.val ∧ r'.wr = r.wr ∧ (r.side → r'.side)) := fun hx => ⟨r, hx, rfl, rfl, fun h => h⟩
  unfold rsvO0 at h
  split at h <;> rename_i ho
  · injection h with h; subst h; simp only [opT0, ho]; exact same (by simpa [rT, rv_toRV] using hr)
  · injection h with h; subst h; simp only [opT0, ho]; exact same (by simpa [rT, rv_toRV] using hr)
  · injection h with h; subst h; simp only [opT0, ho]; exact same (by simpa [rT, rv_toRV] using hr)
  · simp only [opT0, ho, allocT]
    rename_i t
    cases hz : zrT P t with
    | none => simp [hz] at h
    | some z => simp [hz] at h; subst h; exact same (by simpa [rT, boxT] using hr)
  · injection h with h; subst h; simp only [opT0, ho, boxT]; exact same (by simpa [rT, rv_toRV] using hr)
  · split at h
    · rename_i z pl h1 h2 h3
      injection h with h; subst h
      obtain ⟨g1, g2⟩ := placesR_spec h3
      simp only [opT0, ho, buildT, h1, h2, partsT]
      rw [g2]
      simp only [rT] at hr
      split at hr
      · rename_i cs hcs
        rw [hcs]
        refine same ?_
        rw [← hr, allLv_eq]
        congr 3
        simp only [List.map_map, Function.comp_def]
        have : List.map (fun x : (Nat × Nat) × RV => rv s.fr x.2) pl = (pl.map (fun x : (Nat × Nat) × RV => x.2)).map (rv s.fr) := by simp
        rw [this, g1, List.map_map]
        have e2 : List.map (rv s.fr ∘ fun p : Nat × Operand => toRV p.2) = List.map (fun p : Nat × Operand => Operand.t s p.2) := by
          funext l; exact List.map_congr_left fun (p : Nat × Operand) _ => rv_toRV s p.2
        rw [e2]
      · cases hr
    · cases h
  · rename_i t len parts
    split at h
    · rename_i k h1 h2 h3
      split at h
      · rename_i hl
        injection h with h; subst h
        simp only [opT0, ho, buildSliceT, h1, h2, h3, if_pos hl]
        simp only [rT] at hr
        refine same ?_
        rw [← hr]
        have e1 : (partsT s parts).map (fun p : Nat × T => p.2) = (List.map (fun p : Nat × Operand => toRV p.2) parts.toList).map (rv s.fr) := by
          simp only [partsT, List.map_map, Function.comp_def]
          exact List.map_congr_left fun p _ => (rv_toRV s p.2).symm
        rw [allLv_eq, e1]
      · cases h
    · cases h
  · simp only [opT0, ho, loadT]
    rename_i t x
    cases hz : ldT P t with
    | none => simp [hz] at h
    | some l =>
      simp [hz] at h; subst h
      refine same ?_
      simp only [rT, rv_toRV] at hr
      rw [← hr]
      unfold ldR
      cases Operand.t s x <;> rfl
  · simp only [opT0, ho, storeT]
    rename_i t x y
    cases hz : szT P t with
    | none => simp [hz] at h
    | some l =>
      simp [hz] at h; subst h
      refine same ?_
      simp only [rT, rv_toRV] at hr
      rw [← hr]
      unfold stR
      cases Operand.t s x <;> rfl
  · injection h with h; subst h; simp only [opT0, ho]; exact same (by simpa [rT, rv_toRV] using hr)
  · injection h with h; subst h; simp only [opT0, ho, binT_eq]; simp only [rT, rv_toRV] at hr; exact same hr
  · injection h with h; subst h; simp only [opT0, ho]; exact same (by simpa [rT, rv_toRV] using hr)
  · rename_i src dst x
    simp only [opT0, ho]
    split at h
    · rename_i d k h1 h2
      injection h with h; subst h
      simp only [rT, rv_toRV] at hr
      exact same (by rw [convT_i h1 h2]; exact hr)
    · rename_i el h1 h2
      split at h
      · rename_i hu
        injection h with h; subst h
        simp only [rT, rv_toRV] at hr
        exact same (by rw [convT_bs h1 h2 hu]; exact hr)
      · cases h
    · rename_i d hne h1 h2
      injection h with h; subst h
      simp only [rT, rv_toRV] at hr
      exact same (by rw [convT_ss h1 (fun el he => hne el (by rw [he])) h2]; exact hr)
    · rename_i d el h1 h2
      split at h
      · rename_i hu
        injection h with h; subst h
        simp only [rT, rv_toRV] at hr
        exact same (by rw [convT_sb h1 h2 hu]; exact hr)
      · cases h
    · cases h
  · split at h
    · rename_i f first caps hf
      injection h with h; subst h
      simp only [opT0, ho, makeFuncT, hf, if_true]
      simp only [rT, rv_map] at hr
      exact same hr
    · cases h
  · rename_i ty x y
    split at h
    · rename_i el hu
      split at h
      · rename_i z k b h1 h2 h3
        injection h with h; subst h
        simp only [opT0, ho]
        simp only [rT, rv_toRV] at hr
        exact same (makeT_r hu h1 h2 h3 hr)
      · cases h
    · cases h
  · rename_i ty x lo hi
    have hlo : lo.map (Operand.t s) = (lo.map toRV).map (rv s.fr) := by cases lo <;> simp [rv_toRV]
    have hhi : hi.map (Operand.t s) = (hi.map toRV).map (rv s.fr) := by cases hi <;> simp [rv_toRV]
    simp only [opT0, ho]
    rw [hlo, hhi]
    split at h
    · rename_i hu
      injection h with h; subst h
      simp only [rT, rv_toRV] at hr
      exact same (sliceT_s hu hr)
    · rename_i k hix hne
      injection h with h; subst h
      simp only [rT, rv_toRV] at hr
      exact same (sliceT_l hix hr)
    · cases h
  · rename_i ty x f
    simp only [opT0, ho]
    split at h
    · rename_i off n l hf
      split at h
      · cases h
      · rename_i hn
        injection h with h; subst h
        simp only [rT, rv_toRV] at hr
        exact fieldAddrT_r hf hn hr
    · cases h
  · rename_i ty x f
    simp only [opT0, ho]
    split at h
    · rename_i off n l hf
      injection h with h; subst h
      simp only [rT, rv_toRV] at hr
      exact same (fieldT_r hf hr)
    · cases h
  · rename_i ty x i
    simp only [opT0, ho]
    split at h
    · rename_i k hix
      injection h with h; subst h
      simp only [rT, rv_toRV] at hr
      exact same (ixT_l hix hr)
    · rename_i n k hix
      injection h with h; subst h
      simp only [rT, rv_toRV] at hr
      exact same (ixT_a hix hr)
    · cases h
  · rename_i ty x i
    simp only [opT0, ho]
    split at h
    · rename_i hu
      injection h with h; subst h
      simp only [rT, rv_toRV] at hr
      exact same (indexT_r hu hr)
    · cases h
  · injection h with h; subst h; simp only [opT0, ho]; exact same (by simpa [rT, rv_toRV] using hr)
  · rename_i b args tys
    simp only [opT0, ho]
    unfold rsvB at h
    unfold builtinT
    split at h
    · rename_i x ty h1 h2
      rw [h1, h2]
      simp only [List.map_cons, List.map_nil]
      split at h
      · rename_i hu
        injection h with h; subst h
        simp only [rT, rv_toRV] at hr
        exact same (lenT_s hu hr)
      · rename_i el hu
        injection h with h; subst h
        simp only [rT, rv_toRV] at hr
        exact same (lenT_l hu hr)
      · rename_i n el hu
        injection h with h; subst h
        simp only [rT] at hr
        exact same (by rw [lenT_a hu]; exact hr)
      · cases h
    · rename_i x y t0 t1 h1 h2
      rw [h1, h2]
      simp only [List.map_cons, List.map_nil]
      split at h
      · rename_i k b q1 q2 q3 q4
        injection h with h; subst h
        simp only [rT, rv_toRV] at hr
        exact same (appendT_r (str := true) q1 q2 q3 (by unfold appY appYR; rw [q4]; rfl) hr)
      · rename_i k b el q1 q2 q3 q4
        injection h with h; subst h
        simp only [rT, rv_toRV] at hr
        exact same (appendT_r (str := false) q1 q2 q3 (by unfold appY appYR; rw [q4]; rfl) hr)
      · cases h
    · injection h with h; subst h
      simp only [rT, rv_map] at hr
      exact same hr
    · injection h with h; subst h
      simp only [rT, rv_map] at hr
      exact same hr
    · cases h
  · injection h with h; subst h; simp [isCallR] at hc
  · cases h

/-- the operands, one by one -/
theorem rvs_rsv0 {o : Op} {ro : RO} (h : rsvO0 P o = some ro) : ro.rvs = o.operands.toList.map toRV := by
  unfold rsvO0 at h
  split at h
  · injection h with h; subst h; rfl
  · injection h with h; subst h; rfl
  · injection h with h; subst h; rfl
  · rename_i t
    cases hz : zrT P t with
    | none => simp [hz] at h
    | some z => simp [hz] at h; subst h; rfl
  · injection h with h; subst h; rfl
  · split at h
    · rename_i h3
      injection h with h; subst h
      simp [RO.rvs, (placesR_spec h3).1, Op.operands, List.map_map, Function.comp_def]
    · cases h
  · split at h
    · split at h
      · injection h with h; subst h; simp [RO.rvs, Op.operands, List.map_map, Function.comp_def]
      · cases h
    · cases h
  · rename_i t x
    cases hz : ldT P t with
    | none => simp [hz] at h
    | some z => simp [hz] at h; subst h; rfl
  · rename_i t x y
    cases hz : szT P t with
    | none => simp [hz] at h
    | some z => simp [hz] at h; subst h; rfl
  · injection h with h; subst h; rfl
  · injection h with h; subst h; rfl
  · injection h with h; subst h; rfl
  · split at h
    · injection h with h; subst h; rfl
    · split at h
      · injection h with h; subst h; rfl
      · cases h
    · injection h with h; subst h; rfl
    · split at h
      · injection h with h; subst h; rfl
      · cases h
    · cases h
  · split at h
    · rename_i f first caps hf
      injection h with h; subst h
      have : first = #[] := Array.eq_empty_of_size_eq_zero hf
      simp [RO.rvs, Op.operands, this]
    · cases h
  · split at h
    · split at h
      · injection h with h; subst h; rfl
      · cases h
    · cases h
  · rename_i ty x lo hi
    split at h
    · injection h with h; subst h; cases lo <;> cases hi <;> simp [RO.rvs, Op.operands]
    · injection h with h; subst h; cases lo <;> cases hi <;> simp [RO.rvs, Op.operands]
    · cases h
  · split at h
    · split at h
      · cases h
      · injection h with h; subst h; rfl
    · cases h
  · split at h
    · injection h with h; subst h; rfl
    · cases h
  · split at h
    · injection h with h; subst h; rfl
    · injection h with h; subst h; rfl
    · cases h
  · split at h
    · injection h with h; subst h; rfl
    · cases h
  · injection h with h; subst h; rfl
  · rename_i b args tys
    unfold rsvB at h
    split at h
    · rename_i x ty h1 h2
      split at h
      · injection h with h; subst h; simp [RO.rvs, Op.operands, Call.operands, h1]
      · injection h with h; subst h; simp [RO.rvs, Op.operands, Call.operands, h1]
      · injection h with h; subst h; simp [RO.rvs, Op.operands, Call.operands, h1]
      · cases h
    · rename_i x y t0 t1 h1 h2
      split at h
      · injection h with h; subst h; simp [RO.rvs, Op.operands, Call.operands, h1]
      · injection h with h; subst h; simp [RO.rvs, Op.operands, Call.operands, h1]
      · cases h
    · injection h with h; subst h; simp [RO.rvs, Op.operands, Call.operands]
    · injection h with h; subst h; simp [RO.rvs, Op.operands, Call.operands]
    · cases h
  · injection h with h; subst h; simp [RO.rvs, Op.operands, Call.operands]
  · cases h

theorem opT_rsv {o : Oper} {ro : RO} {s : St} {nid : Nat} (h : rsvO P o.op = some ro) (hc : isCallR ro = false) {r : Res} (hr : rT ro (rv s.fr) s.st nid = some r) : ∃ r', opT P s nid o = some r' ∧ r'.val = r.val ∧ r'.wr = r.wr ∧ (r.side → r'.side) := by
  unfold rsvO at h
  unfold opT
  split at h
  · rename_i x hx
    injection h with h; subst h
    rw [hx]
    refine ⟨r, ?_, rfl, rfl, fun h => h⟩
    simp only [rT, List.map_map] at hr
    rw [← hr]
    show extR x s.st nid _ = _
    congr 1
    exact List.map_congr_left fun y _ => (rv_toRV s y).symm
  · rename_i hx
    rw [hx]
    exact opT_rsv0 h hc hr

/-- the operands, one by one -/
theorem rvs_rsv {o : Op} {ro : RO} (h : rsvO P o = some ro) : ro.rvs = o.operands.toList.map toRV := by
  unfold rsvO at h
  split at h
  · injection h with h; subst h; rfl
  · exact rvs_rsv0 h
end
end Go.TL
