/- More operations: each is looked up once (`XO`), and then goes by its operands' trees alone. -/
import Derived.Test.YtnejebkdlofdoaaZzMp
namespace Go.TL
set_option linter.unusedSimpArgs false
set_option linter.unusedVariables false

/-- a plain cell: a bool, an integer, a string -/
inductive EK where
  | b
  | i (k : IntKind)
  | s

inductive XO where
  /-- s[:0:0] -/
  | slZ (k : Nat)
  /-- a slice against nil -/
  | nilq (neg : Bool)
  /-- clear(s) -/
  | clr (k : Nat) (z : T)
  /-- copy(a, b) -/
  | cpy (k : Nat)
  /-- two structs of plain cells -/
  | eqS (neg : Bool) (fs : List EK)
  /-- a slice of bytes as one of its own type -/
  | cvB
  /-- s[i:j:m], that nobody looks at -/
  | sl3
  /-- the room -/
  | capq
  /-- zeros appended -/
  | appM (k b : Nat) (z : T)
  /-- maps: a new one, what it holds, an entry -/
  | mkm (m : MT)
  | mget (m : MT) (ok : Bool)
  | mput (m : MT)

def isZ : Operand → Bool
  | .const (.int _ n) => n == 0
  | _ => false

def ekT (P : Program) (t : TypeId) : Option EK := match P.underlying t with
  | some .bool => some .b
  | some (.int k) => some (.i k)
  | some .string => some .s
  | _ => none
def rsvFs (P : Program) : Nat → List Field → Option (List EK)
  | _, [] => some []
  | off, f :: fs => if f.name = "_" ∨ f.offset ≠ off then none else match ekT P f.type, rsvFs P (off + 1) fs with
    | some k, some r => some (k :: r)
    | _, _ => none

def rsvXB (P : Program) (b : Builtin) (args : List Operand) (tys : List TypeId) : Option XO :=
  match b, args, tys with
  | .clear, [_], [ty] => match P.underlying ty with
    | some (.slice el) => match zrT P el, szT P el with
      | some z, some k => some (.clr k z)
      | _, _ => none
    | _ => none
  | .copy, [_, _], [ty, t1] => match P.underlying t1, ixT P ty with
    | some (.slice _), some (none, k) => some (.cpy k)
    | _, _ => none
  | .cap, [_], [ty] => match P.underlying ty with
    | some (.slice _) => some .capq
    | _ => none
  | .append, [_, _], [t0, t1] => match P.underlying t0, P.underlying t1 with
    | some (.slice el), some (.int _) => match zrT P el, szT P el, byT P t0, zrOk P t0 with
      | some z, some k, some b, true => some (.appM k b z)
      | _, _, _, _ => none
    | _, _ => none
  | _, _, _ => none

def rsvX (P : Program) (o : Op) : Option XO :=
  match o with
  | .slice ty _ none (some h) (some m) => if isZ h && isZ m then (match ixT P ty with | some (none, k) => some (.slZ k) | _ => none) else (match ixT P ty with | some (none, _) => some .sl3 | _ => none)
  | .slice ty _ (some _) (some _) (some _) => match ixT P ty with | some (none, _) => some .sl3 | _ => none
  | .makeMap t none => (mtOf P t).map .mkm
  | .lookup t _ _ ok => (mtOf P t).map fun m => .mget m ok
  | .mapUpdate t _ _ _ => (mtOf P t).map .mput
  | .binOp op ty _ (.const (.slice none 0 0)) _ => match P.underlying ty with
    | some (.slice _) => (match op with | .eql => some (.nilq false) | .neq => some (.nilq true) | _ => none)
    | _ => none
  | .binOp .eql ty _ _ _ => match P.underlying ty with
    | some (.struct fs) => if P.stoodInHeld ty || P.eqGuardType P.depth ty then none else (rsvFs P 0 fs.toList).map (.eqS false)
    | _ => none
  | .binOp .neq ty _ _ _ => match P.underlying ty with
    | some (.struct fs) => if P.stoodInHeld ty || P.eqGuardType P.depth ty then none else (rsvFs P 0 fs.toList).map (.eqS true)
    | _ => none
  | .call { callee := .builtin b, args, argTypes } => rsvXB P b args.toList argTypes.toList
  | .convert src dst _ => if src = dst then (match P.underlying src with
    | some (.slice el) => if isU8 P el then some .cvB else none
    | _ => none) else none
  | _ => none

/-- a part of an object: object, its length, from, how many -/
def partOf : T → Option (Nat × Nat × Nat × Nat)
  | .vw id m lo len => some (id, m, lo, len)
  | .asl id m => some (id, m, 0, m)
  | _ => none

def clrR (k : Nat) (z : T) (st : Sto) (x : T) : Option Res :=
  match partOf x with
  | some (id, m, lo, len) => match get st id with
    | some (.arr k' xs false) => if k' = k then some ⟨xs.length = m ∧ 0 < len ∧ z.cells.length = k ∧ lives [] z.cells, .v (.tuple #[]), [(id, .arr k (xs.take lo ++ List.replicate len z ++ xs.drop (lo + len)) false)]⟩ else none
    | _ => none
  | none => none

def cpyR (k : Nat) (st : Sto) (x y : T) : Option Res :=
  match partOf x, conT st y with
  | some (id, m, lo, len), some (k2, ys) => match get st id with
    | some (.arr k' xs false) => if k' = k ∧ (k2 = none ∨ k2 = some k) then
        some ⟨xs.length = m ∧ lo < m ∧ conS st y, .v (.int .i64 (min ys.length len : Nat)), [(id, .arr k (xs.take lo ++ ys.take (min ys.length len) ++ xs.drop (lo + min ys.length len)) false)]⟩ else none
    | _ => none
  | _, _ => none

def cvBR (st : Sto) (x : T) : Option Res :=
  match x with
  | .asl id m => match get st id with
    | some (.arr 1 xs _) => some ⟨xs.length = m ∧ 0 < m ∧ allIm xs, .sl 1 xs, [(id, .dead)]⟩
    | _ => none
  | _ => none

def eqV : EK → T → T → Option Bool
  | .b, .v (.bool a), .v (.bool b) => some (a == b)
  | .i k, .v (.int k1 a), .v (.int k2 b) => if k1 = k ∧ k2 = k then some (a == b) else none
  | .s, .v (.string a), .v (.string b) => some (a.toList == b.toList)
  | _, _, _ => none
def eqVs : List EK → List T → List T → Option Bool
  | [], [], [] => some true
  | k :: ks, a :: as, b :: bs => match eqV k a b, eqVs ks as bs with
    | some p, some q => some (p && q)
    | _, _ => none
  | _, _, _ => none
def eqSR (neg : Bool) (ks : List EK) (x y : T) : Option Res :=
  match x, y with
  | .agg as, .agg bs => match eqVs ks as bs with
    | some p => retB (if neg then !p else p)
    | none => none
  | _, _ => none

def nilqR (neg : Bool) (st : Sto) (a : T) : Option Res :=
  match a with
  | .v (.slice none 0 0) => ret (.v (.bool (!neg)))
  | a => match conT st a with
    | some (_, xs) => some ⟨conS st a, if neg then .ub true (decide (xs.length = 0)) else .ub (decide (xs.length = 0)) true, []⟩
    | none => none

def slZR (k : Nat) (st : Sto) (nid : Nat) (x : T) : Option Res :=
  match conT st x with
  | some _ => some ⟨get st nid = none ∧ conS st x, .asl nid 0, [(nid, .arr k [] false)]⟩
  | none => none

def extR (x : XO) (st : Sto) (nid : Nat) (ts : List T) : Option Res :=
  match x, ts with
  | .slZ k, [a, _, _] => slZR k st nid a
  | .nilq neg, [a, _] => nilqR neg st a
  | .clr k z, [a] => clrR k z st a
  | .cpy k, [a, b] => cpyR k st a b
  | .eqS neg ks, [a, b] => eqSR neg ks a b
  | .cvB, [a] => cvBR st a
  | .sl3, [a, h, m] => sl3R st a none h m
  | .sl3, [a, l, h, m] => sl3R st a (some l) h m
  | .capq, [a] => capR st a
  | .appM k b z, [a, l] => appMR k b z st nid a l
  | .mkm m, [] => mkmR m st nid
  | .mget m ok, [a, k] => mgetR m ok st a k
  | .mput m, [a, k, v] => mputR m st a k v
  | _, _ => none

section
variable {P : Program} {e : Env} {o : Oper} {s : St}

theorem isZ_inv {x : Operand} (h : isZ x = true) : ∃ k, x = .const (.int k 0) := by
  unfold isZ at h
  split at h
  · rename_i k n; exact ⟨k, by simp at h; rw [h]⟩
  · cases h

theorem does_slZ {ty : TypeId} {x h m : Operand} {k : Nat} (ho : o.op = .slice ty x none (some h) (some m)) (hh : isZ h = true) (hm : isZ m = true) (hix : ixT P ty = some (none, k)) (nid : Nat) {r : Res}
    (hr : slZR k s.st nid (Operand.t s x) = some r) (hs : r.side) : Does P e o s r.val r.wr := by
  unfold slZR at hr
  split at hr
  · rename_i p hc
    injection hr with hr; subst hr
    obtain ⟨hn, hcs⟩ := hs
    obtain ⟨el, inf, g1, g2, g3⟩ := ixT_slice hix
    obtain ⟨k1, rfl⟩ := isZ_inv hh
    obtain ⟨k2, rfl⟩ := isZ_inv hm
    obtain ⟨kk, xs⟩ := p
    refine Does.of_run fun ι act w hR => ?_
    obtain ⟨p, cap, us, hv, _⟩ := hR.con (hR.rp x) hc hcs
    have hb : (Instr.sliceBounds true xs.length cap none (some (.int k1 0)) (some (.int k2 0))).run P w = .ok (0, 0, 0) w := by
      simp [Instr.sliceBounds, Instr.sliceBound, asIntOf]
    have hk1 : act.eval (Operand.const (Value.int k1 0)) = .int k1 0 := rfl
    have hk2 : act.eval (Operand.const (Value.int k2 0)) = .int k2 0 := rfl
    refine ⟨.slice p 0 0, w, _, ?_, hR.empty hn k, ?_⟩
    · simp [execOp, ho, hv, Instr.sliceAt, run_underlying g1, Instr.slice, hk1, hk2, hb, sizeOf, typeInfo, g2, g3]
    · refine .asl nid 0 _ (by simp [stw, get]) fun k2 xs2 fz2 hg2 => ?_
      simp only [stw, List.cons_append, List.nil_append] at hg2
      rw [get_cons_self] at hg2; injection hg2 with hg2; injection hg2 with e1 e2 e3
      subst e1 e2 e3
      exact ⟨by simp, fun _ => by rw [upd_self]; exact ⟨p, rfl⟩⟩
  · cases hr

theorem run_equal_nil {t el : TypeId} (h : P.underlying t = some (.slice el)) (p : Option Addr) (n c : Nat) (w : World) :
    (Op.equal t (.slice p n c) (.slice none 0 0)).run P w = .ok p.isNone w := by
  unfold Op.equal
  rw [show Op.maxDepth = 9999 + 1 from rfl]
  unfold Op.equalIn
  cases p <;> simp [run_underlying h]

theorem does_nilq {ty yt el : TypeId} {x : Operand} {op : BinOp} {neg : Bool} (ho : o.op = .binOp op ty x (.const (.slice none 0 0)) yt) (hu : P.underlying ty = some (.slice el)) (hop : op = (if neg then .neq else .eql)) {r : Res}
    (hr : nilqR neg s.st (Operand.t s x) = some r) (hs : r.side) : Does P e o s r.val r.wr := by
  unfold nilqR at hr
  split at hr
  · rename_i hx
    simp only [ret, Option.some.injEq] at hr; subst hr
    refine Does.of_value fun ι act w hR => ⟨_, ?_, .im (.v _)⟩
    have hv := (hx ▸ hR.rp x).v_inv
    have hk : act.eval (Operand.const (Value.slice none 0 0)) = .slice none 0 0 := rfl
    have h0 := run_equal_nil hu none 0 0 w
    cases neg <;> simp at hop <;> subst hop <;> simp [execOp, ho, hv, hk, eqGuard, binOp, h0]
  · split at hr
    · rename_i kk xs hc
      injection hr with hr; subst hr
      refine Does.of_value fun ι act w hR => ?_
      obtain ⟨p, cap, us, hv, c1, c2, c3, c4, c5, _⟩ := hR.con (hR.rp x) hc hs
      have hk : act.eval (Operand.const (Value.slice none 0 0)) = .slice none 0 0 := rfl
      have h0 := run_equal_nil hu p xs.length cap w
      have hp : p.isNone = true → xs.length = 0 := fun h => by
        rcases Nat.eq_zero_or_pos xs.length with h1 | h1
        · exact h1
        · exact absurd (by simpa using h) (c5 h1)
      cases neg
      · simp at hop; subst hop
        refine ⟨.bool p.isNone, by simp [execOp, ho, hv, hk, eqGuard, binOp, h0], .im (.ub _ _ _ (fun h => by simp [hp h]) (fun _ => rfl))⟩
      · simp at hop; subst hop
        refine ⟨.bool (!p.isNone), by simp [execOp, ho, hv, hk, eqGuard, binOp, h0], .im (.ub _ _ _ (fun _ => rfl) (fun h => by simp [hp (by simpa using h)]))⟩
    · cases hr

/-- a part of an object, as a value -/
theorem Rel.partOf {ι : Iota} {act : Act} {w : World} (hR : Rel e s ι act w) {x : Operand} {id m lo len : Nat} (hp : Go.TL.partOf (Operand.t s x) = some (id, m, lo, len)) {k : Nat} {xs : List T} {fz : Bool} (hg : get s.st id = some (.arr k xs fz)) (hm : xs.length = m) :
    lo + len ≤ m ∧ vwv (ι id) k lo len (act.eval x) := by
  have hr := hR.rp x
  generalize Operand.t s x = t at *
  cases t <;> simp [Go.TL.partOf] at hp
  case vw i n a b =>
    obtain ⟨rfl, rfl, rfl, rfl⟩ := hp
    exact hr.vw_inv hg hm
  case asl i n =>
    obtain ⟨rfl, rfl, rfl, rfl⟩ := hp
    have hv := hr.asl_inv hg hm
    refine ⟨by omega, ?_⟩
    generalize ι i = o at *
    rcases o with _ | ⟨b, cap⟩
    · exact hv
    · exact ⟨_, hv, fun _ => by simp⟩

theorem does_clr {x : Operand} {ty el : TypeId} {z : T} {k : Nat} (ho : o.op = .call { callee := .builtin .clear, args := #[x], argTypes := #[ty] }) (hu : P.underlying ty = some (.slice el)) (hz : zrT P el = some z) (hk : szT P el = some k) {r : Res}
    (hr : clrR k z s.st (Operand.t s x) = some r) (hs : r.side) : Does P e o s r.val r.wr := by
  unfold clrR at hr
  split at hr
  · rename_i id m lo len hp
    split at hr
    · rename_i k' xs hg
      split at hr
      · rename_i hkk
        subst hkk
        injection hr with hr; subst hr
        obtain ⟨hm, hlen, hzk, hzl⟩ := hs
        refine Does.of_run fun ι act w hR => ?_
        obtain ⟨hle, hv⟩ := hR.partOf hp hg hm
        obtain ⟨inf, hi, hisz⟩ : ∃ inf, P.info? el = some inf ∧ inf.size = k' := by
          unfold szT at hk
          cases hi : P.info? el with
          | none => simp [hi] at hk
          | some inf => simp [hi] at hk; exact ⟨inf, rfl, hk⟩
        obtain ⟨zv, hzv, hzo⟩ : ∃ zv, inf.zero = some zv ∧ z = ofV zv := by
          unfold zrT at hz
          cases hq : inf.zero with
          | none => simp [hi, hq] at hz
          | some zv => simp [hi, hq] at hz; exact ⟨zv, rfl, hz.symm⟩
        subst hisz hzo
        obtain ⟨hc1, hc2⟩ := ofV_cells zv
        have hzs : zv.cells.size = inf.size := by rw [← hc1, hzk]
        obtain ⟨hkx, hob⟩ := hR.ob id _ hg
        rcases hob with ⟨q1, q2⟩ | ⟨b, cap, cur, E, q4, q5, q6, q7, q8, q9⟩
        · subst q2; simp only [List.length_nil] at hm; omega
        rw [q4] at hv
        obtain ⟨p, hv, hpp⟩ := hv
        have hpp := hpp (by omega)
        subst hpp
        let us := (Builtin.zeroCells zv.cells len).toList
        have hul : us.length = len * inf.size := by simp only [us]; rw [Array.length_toList, size_zeroCells, hzs]
        have hat : ∀ (j : Nat) (u : Value), us[j]? = some u → j < len * inf.size ∧ 0 < inf.size ∧ zv.cells[j % inf.size]? = some u := by
          intro j u hu
          have hj : j < len * inf.size := by rw [← hul]; exact (List.getElem?_eq_some_iff.1 hu).1
          have hk0 : 0 < inf.size := by
            apply Nat.pos_of_ne_zero
            intro h0; rw [h0] at hj; simp at hj
          have hmod : j % inf.size < zv.cells.size := by rw [hzs]; exact Nat.mod_lt _ hk0
          refine ⟨hj, hk0, ?_⟩
          simp only [us, Builtin.zeroCells, Array.getElem?_toList] at hu
          rw [Array.getElem?_map] at hu
          simp [hj, hzs] at hu
          rw [← hu, getElem!_pos zv.cells _ hmod]
          simp [hmod]
        have hky : ∀ y ∈ List.replicate len (ofV zv), y.cells.length = inf.size := fun y hy => by rw [(List.mem_replicate.1 hy).2]; exact hzk
        have hlive : ∀ (j : Nat) (u : Value), us[j]? = some u → u.oneCell' = true := fun j u hu => by
          obtain ⟨hj, hk0, h3⟩ := hat j u hu
          have hmod : j % inf.size < (ofV zv).cells.length := by rw [hzk]; exact Nat.mod_lt _ hk0
          have h4 : (ofV zv).cells[j % inf.size]? = some (ofV zv).cells[j % inf.size] := by simp [hmod]
          have h5 := hc2 _ u _ h3 h4
          have := lives_mem hzl _ (List.mem_of_getElem? h4)
          rw [h5] at this
          exact this
        have h1 : ∀ u ∈ us, u.oneCell' = true := fun u hu => by
          obtain ⟨j, hj, rfl⟩ := List.getElem_of_mem hu
          exact hlive j _ (by simp [hj])
        have hrp : ∀ (j : Nat) (u : Value) (c : T), us[j]? = some u → (flat (List.replicate len (ofV zv)))[j]? = some c → Rp s.st ι w (Av e s.st ι w) u c := fun j u c hu hc => by
          obtain ⟨hj, hk0, h3⟩ := hat j u hu
          rw [flat_replicate_get _ _ _ hzk j hj] at hc
          rw [hc2 _ u c h3 hc]
          exact .im (.v _)
        have hle1 : xs.length * inf.size ≤ cap * inf.size := Nat.mul_le_mul_right _ q7
        have hle2 : (lo + len) * inf.size ≤ xs.length * inf.size := Nat.mul_le_mul_right _ (by omega)
        rw [Nat.add_mul] at hle2
        have hR' := hR.splice hg (at_ := lo) (ys := List.replicate len (ofV zv)) hky (by simp; omega) (us := us) (by rw [hul]; simp) h1 hrp q4 q5 q6 q7 q8 q9
        have hst := run_storeCells_at P b (lo * inf.size) E us 0 cur w q5 (by rw [hul]; simp only [Nat.add_zero]; omega) h1
        simp only [Nat.add_zero] at hst
        rw [List.length_replicate] at hR'
        refine ⟨.tuple #[], _, ι, ?_, hR', .im (.v _)⟩
        obtain ⟨n, rfl⟩ : ∃ n, len = n + 1 := ⟨len - 1, by omega⟩
        simp [execOp, ho, resolve, invoke, builtin, Builtin.clear_, hv, run_underlying hu, zeroValue, typeInfo, hi, hzv]
        simp only [us] at hst
        rw [hst]
        simp [us, List.append_assoc]
      · cases hr
    · cases hr
  · cases hr

theorem does_cpy {x y : Operand} {ty t1 el1 : TypeId} {k : Nat} (ho : o.op = .call { callee := .builtin .copy, args := #[x, y], argTypes := #[ty, t1] }) (hu1 : P.underlying t1 = some (.slice el1)) (hix : ixT P ty = some (none, k)) {r : Res}
    (hr : cpyR k s.st (Operand.t s x) (Operand.t s y) = some r) (hs : r.side) : Does P e o s r.val r.wr := by
  unfold cpyR at hr
  split at hr
  · rename_i id m lo len k2 ys hp hc
    split at hr
    · rename_i k' xs hg
      split at hr
      · rename_i hkk
        obtain ⟨hkk, hk2⟩ := hkk
        subst hkk
        injection hr with hr; subst hr
        obtain ⟨hm, hlm, hcs⟩ := hs
        refine Does.of_run fun ι act w hR => ?_
        obtain ⟨hle, hv⟩ := hR.partOf hp hg hm
        obtain ⟨el, inf, g1, g2, g3⟩ := ixT_slice hix
        subst g3
        obtain ⟨q, c2, us, hy, c3, c4, c5, c6, c7, c8, c9⟩ := hR.con (hR.rp y) hc hcs
        have hky : ∀ z ∈ ys, z.cells.length = inf.size := by
          rcases hk2 with hk2 | hk2
          · rw [c5 hk2]; simp
          · exact c4 _ hk2
        obtain ⟨hkx, hob⟩ := hR.ob id _ hg
        rcases hob with ⟨q1, q2⟩ | ⟨b, cap, cur, E, q4, q5, q6, q7, q8, q9⟩
        · subst q2; simp only [List.length_nil] at hm; omega
        rw [q4] at hv
        obtain ⟨p, hv, hpp⟩ := hv
        have hpp := hpp (by omega)
        subst hpp
        have hn : min ys.length len ≤ ys.length := Nat.min_le_left _ _
        have hn2 : min ys.length len ≤ len := Nat.min_le_right _ _
        generalize hN : min ys.length len = n at *
        have hfl := flat_length hky
        have hle0 : n * inf.size ≤ ys.length * inf.size := Nat.mul_le_mul_right _ hn
        have hul : (us.take (n * inf.size)).length = n * inf.size := by rw [List.length_take]; omega
        have hky2 : ∀ z ∈ ys.take n, z.cells.length = inf.size := fun z hz => hky z (List.mem_of_mem_take hz)
        have htl : (ys.take n).length = n := by rw [List.length_take]; omega
        have hat : ∀ (j : Nat) (u : Value), (us.take (n * inf.size))[j]? = some u → us[j]? = some u := fun j u hu => by
          rw [List.getElem?_take] at hu
          split at hu
          · exact hu
          · cases hu
        have h1 : ∀ u ∈ us.take (n * inf.size), u.oneCell' = true := fun u hu => by
          obtain ⟨j, hj, rfl⟩ := List.getElem_of_mem hu
          obtain ⟨_, _, _, h⟩ := c8 j ((us.take (n * inf.size))[j]) (hat j _ (List.getElem?_eq_getElem hj))
          exact h
        have hrp : ∀ (j : Nat) (u : Value) (c : T), (us.take (n * inf.size))[j]? = some u → (flat (ys.take n))[j]? = some c → Rp s.st ι w (Av e s.st ι w) u c := fun j u c hu hc => by
          rw [flat_take hky, List.getElem?_take] at hc
          split at hc
          · exact c9 j u c (hat j u hu) hc
          · cases hc
        have hle1 : xs.length * inf.size ≤ cap * inf.size := Nat.mul_le_mul_right _ q7
        have hle2 : (lo + n) * inf.size ≤ xs.length * inf.size := Nat.mul_le_mul_right _ (by omega)
        rw [Nat.add_mul] at hle2
        have hR' := hR.splice hg (at_ := lo) (ys := ys.take n) hky2 (by rw [htl]; omega) (us := us.take (n * inf.size)) (by rw [hul, htl]) h1 hrp q4 q5 q6 q7 q8 q9
        rw [htl] at hR'
        have hst := run_storeCells_at P b (lo * inf.size) E (us.take (n * inf.size)) 0 cur w q5 (by rw [hul]; simp only [Nat.add_zero]; omega) h1
        simp only [Nat.add_zero] at hst
        have hfc : (Builtin.firstCells inf.size n (.slice q ys.length c2)).run P w = .ok (us.take (n * inf.size)).toArray w := by
          cases q with
          | none =>
            have hy0 : ys.length = 0 := by
              rcases Nat.eq_zero_or_pos ys.length with h0 | h0
              · exact h0
              · exact absurd rfl (c7 h0)
            have hn0 : n = 0 := by omega
            subst hn0
            simp [Builtin.firstCells, loadCells, loadCellsFrom]
          | some ad =>
            refine run_firstCells_some (P := P) w inf.size n ad ys.length c2 _ hul fun j u hu => ?_
            obtain ⟨ad', e1, e2, _⟩ := c8 j u (hat j u hu)
            injection e1 with e1; subst e1
            exact e2
        have hlo : (Builtin.lenOf (.slice q ys.length c2)).run P w = .ok ys.length w := by simp [Builtin.lenOf]
        refine ⟨.int .i64 n, _, ι, ?_, hR', .im (.v _)⟩
        simp [execOp, ho, resolve, invoke, builtin, Builtin.copy_, hv, hy, run_underlying g1, hlo, sizeOf, typeInfo, g2, hN, hfc, hst, goInt]
      · cases hr
    · cases hr
  · cases hr

theorem run_eqV {w : World} {t : TypeId} {k : EK} {x y : Value} {a b : T} {p : Bool} (hk : ekT P t = some k) (ha : a = .v x) (hb : b = .v y) (hp : eqV k a b = some p) (d : Nat) : (Op.equalIn (d + 1) t x y).run P w = .ok p w := by
  subst ha hb
  unfold ekT at hk
  split at hk
  · rename_i hu
    injection hk with hk; subst hk
    cases x <;> cases y <;> simp [eqV] at hp
    subst hp
    exact run_equalIn_bool' w d t _ _ hu
  · rename_i kk hu
    injection hk with hk; subst hk
    cases x <;> cases y <;> simp [eqV] at hp
    obtain ⟨⟨rfl, rfl⟩, rfl⟩ := hp
    exact run_equalIn_int w d t _ _ _ _ hu
  · rename_i hu
    injection hk with hk; subst hk
    cases x <;> cases y <;> simp [eqV] at hp
    subst hp
    exact run_equalIn_string w d t _ _ hu
  · cases hk

theorem eqV_v {k : EK} {a b : T} {p : Bool} (h : eqV k a b = some p) : ∃ x y, a = .v x ∧ b = .v y := by
  unfold eqV at h
  split at h
  · exact ⟨_, _, rfl, rfl⟩
  · exact ⟨_, _, rfl, rfl⟩
  · exact ⟨_, _, rfl, rfl⟩
  · cases h

theorem isAgg_ek {w : World} {t : TypeId} {k : EK} (hk : ekT P t = some k) : (isAgg t).run P w = .ok false w := by
  unfold ekT at hk
  split at hk
  all_goals first
    | (rename_i hu; simp [isAgg, run_underlying hu]; done)
    | cases hk

theorem run_eqFs {w : World} {d : Nat} {xs ys : Array Value} : ∀ {fs : List Field} {ks : List EK} {off : Nat} {as bs : List T} {p : Bool}, rsvFs P off fs = some ks → eqVs ks as bs = some p →
    (∀ (j : Nat) (a : T), as[j]? = some a → ∃ u, xs[off + j]? = some u ∧ ∀ x, a = .v x → u = x) → (∀ (j : Nat) (b : T), bs[j]? = some b → ∃ u, ys[off + j]? = some u ∧ ∀ y, b = .v y → u = y) →
    (Op.eqFields (d + 1) xs ys fs).run P w = .ok p w
  | [], ks, off, as, bs, p, h, hp, _, _ => by
    simp only [rsvFs, Option.some.injEq] at h; subst h
    cases as <;> cases bs <;> simp [eqVs] at hp
    subst hp
    simp [Op.eqFields]
  | f :: fs, ks, off, as, bs, p, h, hp, hx, hy => by
    simp only [rsvFs] at h
    split at h
    · cases h
    · rename_i hno
      simp only [not_or, Decidable.not_not] at hno
      obtain ⟨hn, ho⟩ := hno
      split at h
      · rename_i k r hk hr
        injection h with h; subst h
        cases as with
        | nil => cases bs <;> simp [eqVs] at hp
        | cons a as => cases bs with
          | nil => simp [eqVs] at hp
          | cons b bs =>
            simp only [eqVs] at hp
            split at hp
            · rename_i p1 p2 h1 h2
              injection hp with hp; subst hp
              obtain ⟨x, y, rfl, rfl⟩ := eqV_v h1
              obtain ⟨u, hu1, hu2⟩ := hx 0 (.v x) (by simp)
              obtain ⟨v, hv1, hv2⟩ := hy 0 (.v y) (by simp)
              have hu2 := hu2 x rfl
              have hv2 := hv2 y rfl
              subst hu2 hv2
              simp only [Nat.add_zero] at hu1 hv1
              have ih := run_eqFs (w := w) (d := d) (xs := xs) (ys := ys) hr h2 (fun j a ha => by
                obtain ⟨u, h3, h4⟩ := hx (j + 1) a (by simpa using ha)
                exact ⟨u, by rw [show off + 1 + j = off + (j + 1) by omega]; exact h3, h4⟩) (fun j a ha => by
                obtain ⟨u, h3, h4⟩ := hy (j + 1) a (by simpa using ha)
                exact ⟨u, by rw [show off + 1 + j = off + (j + 1) by omega]; exact h3, h4⟩)
              have hq := run_eqV (w := w) hk rfl rfl h1 d
              have hag := isAgg_ek (w := w) hk
              simp only [Op.eqFields, ne_eq, hn, not_false_eq_true, if_true, part, ho]
              simp only [Sem.run_bind, hag, Result.andThen_ok, Bool.false_eq_true, if_false, hu1, hv1, Sem.run_pure, hq, Sem.run_ite, ih]
              cases p1 <;> simp
            · cases hp
      · cases h

theorem does_eqS {op : BinOp} {ty yt : TypeId} {x y : Operand} {neg : Bool} {fs : Array Field} {ks : List EK} (ho : o.op = .binOp op ty x y yt) (hop : op = (if neg then .neq else .eql)) (hu : P.underlying ty = some (.struct fs))
    (hg : (P.stoodInHeld ty || P.eqGuardType P.depth ty) = false) (hk : rsvFs P 0 fs.toList = some ks) {r : Res} (hr : eqSR neg ks (Operand.t s x) (Operand.t s y) = some r) (hs : r.side) : Does P e o s r.val r.wr := by
  unfold eqSR at hr
  split at hr
  · rename_i as bs hx hy
    split at hr
    · rename_i p hp
      simp only [retB, ret, Option.some.injEq] at hr; subst hr
      simp only [Bool.or_eq_false_iff] at hg
      refine Does.of_value fun ι act w hR => ⟨_, ?_, .im (.v _)⟩
      obtain ⟨us, hv, h1, h2⟩ := (hx ▸ hR.rp x).agg_inv
      obtain ⟨vs, hv', h1', h2'⟩ := (hy ▸ hR.rp y).agg_inv
      have hof : P.fieldsOf ty = fs := by simp [Program.fieldsOf, hu]
      have hrun := run_eqFs (w := w) (d := 9998) (xs := us.toArray) (ys := vs.toArray) hk hp (fun j a ha => by
        have hj : j < us.length := by rw [h1]; exact (List.getElem?_eq_some_iff.1 ha).1
        refine ⟨us[j], by simp [hj], ?_⟩
        rintro z rfl
        exact (h2 j us[j] _ (by simp [hj]) ha).v_inv) (fun j a ha => by
        have hj : j < vs.length := by rw [h1']; exact (List.getElem?_eq_some_iff.1 ha).1
        refine ⟨vs[j], by simp [hj], ?_⟩
        rintro z rfl
        exact (h2' j vs[j] _ (by simp [hj]) ha).v_inv)
      have he := run_equalIn_agg (P := P) w 9999 ty us.toArray vs.toArray (by rw [hof]; exact hu) hg.1
      rw [hof, hrun] at he
      have hgd := fun op => run_eqGuard_agg (P := P) w op ty x y us.toArray vs.toArray hg.2
      cases neg
      · simp at hop; subst hop
        have h3 := run_eql_struct (P := P) w ty us.toArray vs.toArray
        rw [he] at h3
        simp [execOp, ho, hv, hv', hgd, h3]
      · simp at hop; subst hop
        have h3 := run_neq_struct (P := P) w ty us.toArray vs.toArray
        rw [he] at h3
        simp [execOp, ho, hv, hv', hgd, h3]
    · cases hr
  · cases hr

theorem cell_freeze (w : World) (a : Addr) (n : Nat) (x : Addr) : (w.freeze a n).cell? x = w.cell? x := by
  unfold World.freeze
  split
  · rfl
  · by_cases h : x.block = a.block
    · unfold World.cell?
      simp only [Array.getElem?_modify, h, if_true]
      cases hh : w.heap[a.block]? with
      | none => simp
      | some o => cases o <;> rfl
    · refine World.cell?_of_block ?_
      simp only [Array.getElem?_modify]
      rw [if_neg (fun e => h e.symm)]
theorem heap_freeze (w : World) (a : Addr) (n b : Nat) (h : b ≠ a.block) : (w.freeze a n).heap[b]? = w.heap[b]? := by
  unfold World.freeze
  split
  · rfl
  · simp only [Array.getElem?_modify]
    rw [if_neg (fun e => h e.symm)]
theorem size_freeze (w : World) (a : Addr) (n : Nat) : (w.freeze a n).heap.size = w.heap.size := by
  unfold World.freeze
  split <;> simp
theorem rest_freeze (w : World) (a : Addr) (n : Nat) : (w.freeze a n).os = w.os ∧ (w.freeze a n).tape = w.tape ∧ (w.freeze a n).output = w.output := by
  unfold World.freeze
  split <;> exact ⟨rfl, rfl, rfl⟩

theorem does_cvB {ty el : TypeId} {x : Operand} (ho : o.op = .convert ty ty x) (hu : P.underlying ty = some (.slice el)) (h8 : isU8 P el = true) {r : Res} (hr : cvBR s.st (Operand.t s x) = some r) (hs : r.side) : Does P e o s r.val r.wr := by
  have hu8 : P.underlying el = some (.int .u8) := by
    unfold isU8 at h8
    split at h8
    · rename_i hu; exact hu
    · cases h8
  unfold cvBR at hr
  split at hr
  · rename_i id m hx
    split at hr
    · rename_i xs fz hg
      injection hr with hr; subst hr
      obtain ⟨hm, hpos, him⟩ := hs
      refine Does.of_run fun ι act w hR => ?_
      have hv := (hx ▸ hR.rp x).asl_inv hg hm
      obtain ⟨hk, hob⟩ := hR.ob id _ hg
      rcases hob with ⟨g4, rfl⟩ | ⟨b, cap, cur, E, g4, g5, g6, g7, g8, g9⟩
      · simp only [List.length_nil] at hm; omega
      rw [g4] at hv
      have hv : act.eval x = .slice (some ⟨b, 0, none⟩) m cap := hv
      have hfl := flat_length hk
      have hle : xs.length * 1 ≤ cap * 1 := Nat.mul_le_mul_right 1 g7
      have hrun : (convert ty ty (.slice (some ⟨b, 0, none⟩) m cap)).run P w = .ok (.slice (some ⟨b, 0, none⟩) m cap) (w.freeze ⟨b, cur.size, none⟩ 1) := by
        have hsh : w.shape? b = some (E, cur.size) := by simp [World.shape?, g5]
        simp [convert, run_underlying hu, run_underlying hu8, markStringish, hsh]
      obtain ⟨r1, r2, r3⟩ := rest_freeze w ⟨b, cur.size, none⟩ 1
      have hcell : ∀ x u, w.cell? x = some u → (w.freeze ⟨b, cur.size, none⟩ 1).cell? x = some u := fun x u hu => by rw [cell_freeze]; exact hu
      have hcase : ∀ i k' xs' fz', get ((id, Ob.dead) :: s.st) i = some (.arr k' xs' fz') → i ≠ id ∧ get s.st i = some (.arr k' xs' fz') := by
        intro i k' xs' fz' h
        by_cases hi : i = id
        · subst hi; rw [get_cons_self] at h; injection h with h; cases h
        · rw [get_cons_ne _ _ (Ne.symm hi)] at h; exact ⟨hi, h⟩
      have hcaseM : ∀ i es, get ((id, Ob.dead) :: s.st) i = some (.mp es) → i ≠ id ∧ get s.st i = some (.mp es) := by
        intro i es h
        by_cases hi : i = id
        · subst hi; rw [get_cons_self] at h; injection h with h; cases h
        · rw [get_cons_ne _ _ (Ne.symm hi)] at h; exact ⟨hi, h⟩
      have hAv : ∀ x, Av e s.st ι w x → Av e ((id, .dead) :: s.st) ι (w.freeze ⟨b, cur.size, none⟩ 1) x := by
        rintro x (hx | ⟨h1, h2, h3⟩)
        · exact .inl hx
        · refine .inr ⟨h1, by rw [size_freeze]; exact h2, fun i k1 x1 f1 cap' hg1 hi => ?_⟩
          obtain ⟨_, q⟩ := hcase i k1 x1 f1 hg1
          exact h3 i k1 x1 f1 cap' q hi
      have hgo := hR.go (st' := (id, .dead) :: s.st) (ι' := ι) (w' := w.freeze ⟨b, cur.size, none⟩ 1) ⟨fun i hi => by
          by_cases h1 : i = id
          · subst h1; rw [get_cons_self]; simp
          · rw [get_cons_ne _ _ (Ne.symm h1)]; exact hi, fun i k' xs' fz' h hi => by
          obtain ⟨q1, q2⟩ := hcase i k' xs' fz' h
          exact ⟨k', xs', fz', q2, rfl, Nat.le_refl _, fun _ => rfl⟩, fun i es h _ => ⟨⟨es, (hcaseM i es h).2⟩, rfl⟩⟩ (fun x _ u hu => hcell x u hu) hAv ?_ ?_ ?_ ?_ (by rw [size_freeze]; exact Nat.le_refl _) r1 r2 r3
        (fun i es h => ⟨(hcaseM i es h).2, rfl, fun b' c' hi => heap_freeze w _ 1 b' (hR.mne (hcaseM i es h).2 hi hg g4)⟩)
      · refine ⟨.slice (some ⟨b, 0, none⟩) m cap, _, ι, ?_, hgo.1, ?_⟩
        · simp [execOp, ho, hv, hrun]
        · refine .im (.sl (some ⟨b, 0, none⟩) m cap 1 xs (cur.toList.take xs.length) hm (by omega) hk (by rw [hfl]; simp; omega) (by simp) (fun j u hu => ?_) (fun j u c hu hc => ?_))
          · rw [List.getElem?_take] at hu
            split at hu
            · rename_i hj
              obtain ⟨c, hc⟩ : ∃ c, (flat xs)[j]? = some c := ⟨(flat xs)[j]'(by rw [hfl]; omega), List.getElem?_eq_getElem _⟩
              refine ⟨_, rfl, ?_, ?_, (g9 j u c (by simpa using hu) hc).1⟩
              · rw [addr_add]
                refine .inr ⟨(hR.own id 1 xs fz b cap hg g4).symm, by rw [size_freeze]; exact lt_of_heap g5, fun id' k2 xs2 fz2 cap2 hg2 hi2 => ?_⟩
                obtain ⟨q1, q2⟩ := hcase id' k2 xs2 fz2 hg2
                exact absurd (hR.inj id' id _ _ _ _ _ _ b cap2 cap q2 hg hi2 g4) q1
              · rw [addr_add]
                exact hcell _ _ (by rw [cell_row g5]; simpa using hu)
            · cases hu
          · rw [List.getElem?_take] at hu
            split at hu
            · have h0 := (g9 j u c (by simpa using hu) hc).2
              have hic : imT c = true := by
                have := List.mem_of_getElem? hc
                simp only [flat, List.mem_flatMap] at this
                obtain ⟨y, hy, hcy⟩ := this
                exact him y hy c hcy
              have h1 := hgo.2 u c h0
              exact h1.imv hic
            · cases hu
      · intro i o' ho'
        by_cases h1 : i = id
        · subst h1; rw [get_cons_self] at ho'; injection ho' with ho'; subst ho'
          exact .inr fun _ => trivial
        · rw [get_cons_ne _ _ (Ne.symm h1)] at ho'
          refine .inl ⟨ho', rfl, fun b' c' hi ⟨k1, x1, f1, e1⟩ => ?_⟩
          subst e1
          refine heap_freeze w _ 1 b' fun hb => h1 ?_
          dsimp only at hb
          subst hb
          exact hR.inj i id _ _ _ _ _ _ b' c' cap ho' hg hi g4
      · intro i i' k1 x1 f1 k2 x2 f2 b' c c' g1 g2 e1 e2
        exact hR.inj i i' _ _ _ _ _ _ b' c c' (hcase _ _ _ _ g1).2 (hcase _ _ _ _ g2).2 e1 e2
      · intro i k1 x1 f1 b' c g1 e1
        exact hR.own i _ _ _ b' c (hcase _ _ _ _ g1).2 e1
      · intro b' hb hn
        refine heap_freeze w _ 1 b' fun hb' => ?_
        dsimp only at hb'
        subst hb'
        rcases hR.own id 1 xs fz b' cap hg g4 with h | h
        · exact hn h
        · omega
    · cases hr
  · cases hr

theorem does_ext {nid : Nat} {x : XO} (h : rsvX P o.op = some x) {r : Res} (hr : extR x s.st nid (o.op.operands.toList.map (Operand.t s)) = some r) (hs : r.side) : Does P e o s r.val r.wr := by
  unfold rsvX at h
  split at h
  · rename_i ty x0 hi mx ho
    split at h
    · rename_i hz
      simp only [Bool.and_eq_true] at hz
      split at h
      · rename_i k hix
        injection h with h; subst h
        rw [ho] at hr
        exact does_slZ ho hz.1 hz.2 hix nid (by simpa [extR, Op.operands] using hr) hs
      · cases h
    · split at h
      · rename_i hix
        injection h with h; subst h
        rw [ho] at hr
        exact does_sl3 ho hix (by simpa [extR, Op.operands] using hr) hs
      · cases h
  · rename_i ty x0 lo hi mx ho
    split at h
    · rename_i hix
      injection h with h; subst h
      rw [ho] at hr
      exact does_sl3 ho hix (by simpa [extR, Op.operands] using hr) hs
    · cases h
  · rename_i t ho
    cases hm : mtOf P t with
    | none => simp [hm] at h
    | some m =>
      simp only [hm, Option.map_some, Option.some.injEq] at h; subst h
      rw [ho] at hr
      exact does_mkm ho nid (by simpa [extR, Op.operands] using hr) hs
  · rename_i t x0 k0 ok ho
    cases hm : mtOf P t with
    | none => simp [hm] at h
    | some m =>
      simp only [hm, Option.map_some, Option.some.injEq] at h; subst h
      rw [ho] at hr
      exact does_mget ho hm (by simpa [extR, Op.operands] using hr) hs
  · rename_i t x0 k0 v0 ho
    cases hm : mtOf P t with
    | none => simp [hm] at h
    | some m =>
      simp only [hm, Option.map_some, Option.some.injEq] at h; subst h
      rw [ho] at hr
      exact does_mput ho hm (by simpa [extR, Op.operands] using hr) hs
  · rename_i op ty x0 yt ho
    split at h
    · rename_i el hu
      rw [ho] at hr
      split at h
      · injection h with h; subst h
        exact does_nilq (neg := false) ho hu rfl (by simpa [extR, Op.operands] using hr) hs
      · injection h with h; subst h
        exact does_nilq (neg := true) ho hu rfl (by simpa [extR, Op.operands] using hr) hs
      · cases h
    · cases h
  · rename_i ty x0 y0 yt _ ho
    split at h
    · rename_i fs hu
      split at h
      · cases h
      · rename_i hg
        rw [ho] at hr
        cases hk : rsvFs P 0 fs.toList with
        | none => simp [hk] at h
        | some ks =>
          simp only [hk, Option.map_some, Option.some.injEq] at h; subst h
          exact does_eqS (neg := false) ho rfl hu (by simpa using hg) hk (by simpa [extR, Op.operands] using hr) hs
    · cases h
  · rename_i ty x0 y0 yt _ ho
    split at h
    · rename_i fs hu
      split at h
      · cases h
      · rename_i hg
        rw [ho] at hr
        cases hk : rsvFs P 0 fs.toList with
        | none => simp [hk] at h
        | some ks =>
          simp only [hk, Option.map_some, Option.some.injEq] at h; subst h
          exact does_eqS (neg := true) ho rfl hu (by simpa using hg) hk (by simpa [extR, Op.operands] using hr) hs
    · cases h
  · rename_i b args tys ho
    unfold rsvXB at h
    split at h
    · rename_i x0 ty ha ht
      obtain ⟨args⟩ := args
      obtain ⟨tys⟩ := tys
      simp only at ha ht
      subst ha ht
      split at h
      · rename_i el hu
        split at h
        · rename_i z k hz hk
          injection h with h; subst h
          rw [ho] at hr
          exact does_clr ho hu hz hk (by simpa [extR, Op.operands, Call.operands] using hr) hs
        · cases h
      · cases h
    · rename_i x0 y0 ty t1 ha ht
      obtain ⟨args⟩ := args
      obtain ⟨tys⟩ := tys
      simp only at ha ht
      subst ha ht
      split at h
      · rename_i el k hu hix
        injection h with h; subst h
        rw [ho] at hr
        exact does_cpy ho hu hix (by simpa [extR, Op.operands, Call.operands] using hr) hs
      · cases h
    · rename_i x0 ty ha ht
      obtain ⟨args⟩ := args
      obtain ⟨tys⟩ := tys
      simp only at ha ht
      subst ha ht
      split at h
      · rename_i el hu
        injection h with h; subst h
        rw [ho] at hr
        exact does_cap ho hu (by simpa [extR, Op.operands, Call.operands] using hr) hs
      · cases h
    · rename_i x0 y0 ty t1 ha ht
      obtain ⟨args⟩ := args
      obtain ⟨tys⟩ := tys
      simp only at ha ht
      subst ha ht
      split at h
      · rename_i el kx hu hu1
        split at h
        · rename_i z k b hz hk hb hzo
          injection h with h; subst h
          rw [ho] at hr
          exact does_appM ho hu hu1 hz hk hb hzo nid (by simpa [extR, Op.operands, Call.operands] using hr) hs
        · cases h
      · cases h
    · cases h
  · rename_i src dst x0 ho
    split at h
    · rename_i hsd
      subst hsd
      split at h
      · rename_i el hu
        split at h
        · rename_i h8
          injection h with h; subst h
          rw [ho] at hr
          exact does_cvB ho hu h8 (by simpa [extR, Op.operands] using hr) hs
        · cases h
      · cases h
    · cases h
  · cases h

theorem nilqR_loc {neg : Bool} {a : T} {st st' : Sto} (h : Alike (ids a) st st') : nilqR neg st a = nilqR neg st' a := by
  unfold nilqR
  split
  · rfl
  · rw [conT_loc h, conS_loc h]
theorem slZR_loc {k nid : Nat} {a : T} {st st' : Sto} (h : Alike (ids a) st st') (hN : get st nid = get st' nid) : slZR k st nid a = slZR k st' nid a := by
  unfold slZR; rw [conT_loc h, conS_loc h, hN]

theorem partOf_ids {a : T} {id m lo len : Nat} (h : partOf a = some (id, m, lo, len)) : id ∈ ids a := by
  cases a <;> simp [partOf] at h
  · obtain ⟨rfl, _⟩ := h; simp [ids]
  · obtain ⟨rfl, _⟩ := h; simp [ids]
theorem clrR_loc {k : Nat} {z a : T} {st st' : Sto} (h : Alike (ids a) st st') : clrR k z st a = clrR k z st' a := by
  unfold clrR
  split
  · rename_i hp; rw [h _ (partOf_ids hp)]
  · rfl
theorem cpyR_loc {k : Nat} {a b : T} {st st' : Sto} (h : Alike (ids a) st st') (h2 : Alike (ids b) st st') : cpyR k st a b = cpyR k st' a b := by
  unfold cpyR
  rw [conT_loc h2, conS_loc h2]
  split
  · rename_i hp hc; rw [h _ (partOf_ids hp)]
  · rfl

theorem sl3R_loc {a h m : T} {lo : Option T} {st st' : Sto} (hI : Alike (ids a) st st') : sl3R st a lo h m = sl3R st' a lo h m := by
  unfold sl3R; rw [conT_loc hI, conS_loc hI]
theorem capR_loc {a : T} {st st' : Sto} (hI : Alike (ids a) st st') : capR st a = capR st' a := by
  unfold capR
  cases a <;> try rfl
  case vw id n lo len =>
    have h1 := hI id (by simp [ids])
    have h2 := hI (id + capK) (by simp [ids, capK])
    simp only [h2, validId_loc h1]
theorem appMR_loc {k b nid : Nat} {z a l : T} {st st' : Sto} (hI : Alike (ids a) st st') (hN : get st nid = get st' nid) : appMR k b z st nid a l = appMR k b z st' nid a l := by
  unfold appMR
  cases a <;> try rfl
  case vw id n lo len =>
    have h1 := hI id (by simp [ids])
    have h2 := hI (id + capK) (by simp [ids, capK])
    cases l <;> try rfl
    case v y =>
      cases y <;> try rfl
      case int kk l => simp only [h1, h2, hN]
theorem mgetR_loc {m : MT} {ok : Bool} {a k : T} {st st' : Sto} (hI : Alike (ids a) st st') : mgetR m ok st a k = mgetR m ok st' a k := by
  unfold mgetR
  cases a <;> try rfl
  case mp id => simp only [hI id (by simp [ids])]
theorem mputR_loc {m : MT} {a k v : T} {st st' : Sto} (hI : Alike (ids a) st st') : mputR m st a k v = mputR m st' a k v := by
  unfold mputR
  cases a <;> try rfl
  case mp id => simp only [hI id (by simp [ids])]
theorem ext_loc {x : XO} {nid : Nat} {ts : List T} {st st' : Sto} (hI : ∀ t ∈ ts, Alike (ids t) st st') (hN : get st nid = get st' nid) : extR x st nid ts = extR x st' nid ts := by
  unfold extR
  split
  · exact slZR_loc (hI _ (by simp)) hN
  · exact nilqR_loc (hI _ (by simp))
  · exact clrR_loc (hI _ (by simp))
  · exact cpyR_loc (hI _ (by simp)) (hI _ (by simp))
  · rfl
  · rename_i a
    have h := hI a (by simp)
    unfold cvBR
    cases a <;> try rfl
    case asl id m => simp only [h id (by simp [ids])]
  · exact sl3R_loc (hI _ (by simp))
  · exact sl3R_loc (hI _ (by simp))
  · exact capR_loc (hI _ (by simp))
  · exact appMR_loc (hI _ (by simp)) hN
  · simp only [mkmR, hN]
  · exact mgetR_loc (hI _ (by simp))
  · exact mputR_loc (hI _ (by simp))
  · rfl

def opT (P : Program) (s : St) (nid : Nat) (o : Oper) : Option Res :=
  match rsvX P o.op with
  | some x => extR x s.st nid (o.op.operands.toList.map (Operand.t s))
  | none => opT0 P s nid o

theorem does_opT (nid : Nat) {r : Res} (h : opT P s nid o = some r) (hs : r.side) : Does P e o s r.val r.wr := by
  unfold opT at h
  split at h
  · rename_i x hx; exact does_ext hx h hs
  · exact does_opT0 nid h hs

theorem opT_loc {s' : St} {nid : Nat} (hT : ∀ x ∈ o.op.operands.toList, Operand.t s x = Operand.t s' x) (hI : ∀ x ∈ o.op.operands.toList, Alike (ids (Operand.t s x)) s.st s'.st) (hN : get s.st nid = get s'.st nid) :
    opT P s nid o = opT P s' nid o := by
  unfold opT
  split
  · have e1 : o.op.operands.toList.map (Operand.t s) = o.op.operands.toList.map (Operand.t s') := List.map_congr_left hT
    rw [← e1]
    refine ext_loc (fun t ht => ?_) hN
    obtain ⟨x, hx, rfl⟩ := List.mem_map.1 ht
    exact hI x hx
  · exact opT0_loc hT hI hN

theorem rsvX_call {op : Op} {x : XO} (h : rsvX P op = some x) : ∀ c, op = .call c → ∃ b, c.callee = .builtin b := by
  rintro c rfl
  unfold rsvX at h
  split at h <;> first
    | (rename_i hc; cases hc; done)
    | (rename_i hc; injection hc with hc; subst hc; exact ⟨_, rfl⟩)
    | cases h
end
end Go.TL
