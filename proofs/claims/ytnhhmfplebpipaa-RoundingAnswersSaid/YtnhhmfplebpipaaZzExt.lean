/- More operations: each is looked up once (`XO`), and then goes by its operands' trees alone. -/
import Derived.Test.YtnhhmfplebpipaaZzAll
namespace Go.TL
set_option linter.unusedSimpArgs false
set_option linter.unusedVariables false

inductive XO where
  /-- s[:0:0] -/
  | slZ (k : Nat)
  /-- a slice against nil -/
  | nilq (neg : Bool)

def isZ : Operand → Bool
  | .const (.int _ n) => n == 0
  | _ => false

def rsvX (P : Program) (o : Op) : Option XO :=
  match o with
  | .slice ty _ none (some h) (some m) => if isZ h && isZ m then (match ixT P ty with | some (none, k) => some (.slZ k) | _ => none) else none
  | .binOp op ty _ (.const (.slice none 0 0)) _ => match P.underlying ty with
    | some (.slice _) => (match op with | .eql => some (.nilq false) | .neq => some (.nilq true) | _ => none)
    | _ => none
  | _ => none

def nilqR (neg : Bool) (st : Sto) (a : T) : Option Res :=
  match a with
  | .v (.slice none 0 0) => ret (.v (.bool (!neg)))
  | a => match conT st a with
    | some (_, xs) => some ⟨conS st a, if neg then .ub true (decide (xs.length = 0)) else .ub (decide (xs.length = 0)) true, []⟩
    | none => none

def slZR (k : Nat) (st : Sto) (nid : Nat) (x : T) : Option Res :=
  match conT st x with
  | some _ => some ⟨get st nid = none ∧ conS st x, .asl nid 0, [(nid, .arr k [] false)]⟩
  | none => none

def extR (x : XO) (st : Sto) (nid : Nat) (ts : List T) : Option Res :=
  match x, ts with
  | .slZ k, [a, _, _] => slZR k st nid a
  | .nilq neg, [a, _] => nilqR neg st a
  | _, _ => none

section
variable {P : Program} {e : Env} {o : Oper} {s : St}

theorem isZ_inv {x : Operand} (h : isZ x = true) : ∃ k, x = .const (.int k 0) := by
  unfold isZ at h
  split at h
  · rename_i k n; exact ⟨k, by simp at h; rw [h]⟩
  · cases h

theorem does_slZ {ty : TypeId} {x h m : Operand} {k : Nat} (ho : o.op = .slice ty x none (some h) (some m)) (hh : isZ h = true) (hm : isZ m = true) (hix : ixT P ty = some (none, k)) (nid : Nat) {r : Res}
    (hr : slZR k s.st nid (Operand.t s x) = some r) (hs : r.side) : Does P e o s r.val r.wr := by
  unfold slZR at hr
  split at hr
  · rename_i p hc
    injection hr with hr; subst hr
    obtain ⟨hn, hcs⟩ := hs
    obtain ⟨el, inf, g1, g2, g3⟩ := ixT_slice hix
    obtain ⟨k1, rfl⟩ := isZ_inv hh
    obtain ⟨k2, rfl⟩ := isZ_inv hm
    obtain ⟨kk, xs⟩ := p
    refine Does.of_run fun ι act w hR => ?_
    obtain ⟨p, cap, us, hv, _⟩ := hR.con (hR.rp x) hc hcs
    have hb : (Instr.sliceBounds true xs.length cap none (some (.int k1 0)) (some (.int k2 0))).run P w = .ok (0, 0, 0) w := by
      simp [Instr.sliceBounds, Instr.sliceBound, asIntOf]
    have hk1 : act.eval (Operand.const (Value.int k1 0)) = .int k1 0 := rfl
    have hk2 : act.eval (Operand.const (Value.int k2 0)) = .int k2 0 := rfl
    refine ⟨.slice p 0 0, w, _, ?_, hR.empty hn k, ?_⟩
    · simp [execOp, ho, hv, Instr.sliceAt, run_underlying g1, Instr.slice, hk1, hk2, hb, sizeOf, typeInfo, g2, g3]
    · refine .asl nid 0 _ (by simp [stw, get]) fun k2 xs2 fz2 hg2 => ?_
      simp only [stw, List.cons_append, List.nil_append] at hg2
      rw [get_cons_self] at hg2; injection hg2 with hg2; injection hg2 with e1 e2 e3
      subst e1 e2 e3
      exact ⟨by simp, fun _ => by rw [upd_self]; exact ⟨p, rfl⟩⟩
  · cases hr

theorem run_equal_nil {t el : TypeId} (h : P.underlying t = some (.slice el)) (p : Option Addr) (n c : Nat) (w : World) :
    (Op.equal t (.slice p n c) (.slice none 0 0)).run P w = .ok p.isNone w := by
  unfold Op.equal
  rw [show Op.maxDepth = 9999 + 1 from rfl]
  unfold Op.equalIn
  cases p <;> simp [run_underlying h]

theorem does_nilq {ty yt el : TypeId} {x : Operand} {op : BinOp} {neg : Bool} (ho : o.op = .binOp op ty x (.const (.slice none 0 0)) yt) (hu : P.underlying ty = some (.slice el)) (hop : op = (if neg then .neq else .eql)) {r : Res}
    (hr : nilqR neg s.st (Operand.t s x) = some r) (hs : r.side) : Does P e o s r.val r.wr := by
  unfold nilqR at hr
  split at hr
  · rename_i hx
    simp only [ret, Option.some.injEq] at hr; subst hr
    refine Does.of_value fun ι act w hR => ⟨_, ?_, .im (.v _)⟩
    have hv := (hx ▸ hR.rp x).v_inv
    have hk : act.eval (Operand.const (Value.slice none 0 0)) = .slice none 0 0 := rfl
    have h0 := run_equal_nil hu none 0 0 w
    cases neg <;> simp at hop <;> subst hop <;> simp [execOp, ho, hv, hk, eqGuard, binOp, h0]
  · split at hr
    · rename_i kk xs hc
      injection hr with hr; subst hr
      refine Does.of_value fun ι act w hR => ?_
      obtain ⟨p, cap, us, hv, c1, c2, c3, c4, c5, _⟩ := hR.con (hR.rp x) hc hs
      have hk : act.eval (Operand.const (Value.slice none 0 0)) = .slice none 0 0 := rfl
      have h0 := run_equal_nil hu p xs.length cap w
      have hp : p.isNone = true → xs.length = 0 := fun h => by
        rcases Nat.eq_zero_or_pos xs.length with h1 | h1
        · exact h1
        · exact absurd (by simpa using h) (c5 h1)
      cases neg
      · simp at hop; subst hop
        refine ⟨.bool p.isNone, by simp [execOp, ho, hv, hk, eqGuard, binOp, h0], .im (.ub _ _ _ (fun h => by simp [hp h]) (fun _ => rfl))⟩
      · simp at hop; subst hop
        refine ⟨.bool (!p.isNone), by simp [execOp, ho, hv, hk, eqGuard, binOp, h0], .im (.ub _ _ _ (fun _ => rfl) (fun h => by simp [hp (by simpa using h)]))⟩
    · cases hr

theorem does_ext {nid : Nat} {x : XO} (h : rsvX P o.op = some x) {r : Res} (hr : extR x s.st nid (o.op.operands.toList.map (Operand.t s)) = some r) (hs : r.side) : Does P e o s r.val r.wr := by
  unfold rsvX at h
  split at h
  · rename_i ty x0 hi mx ho
    split at h
    · rename_i hz
      simp only [Bool.and_eq_true] at hz
      split at h
      · rename_i k hix
        injection h with h; subst h
        rw [ho] at hr
        exact does_slZ ho hz.1 hz.2 hix nid (by simpa [extR, Op.operands] using hr) hs
      · cases h
    · cases h
  · rename_i op ty x0 yt ho
    split at h
    · rename_i el hu
      rw [ho] at hr
      split at h
      · injection h with h; subst h
        exact does_nilq (neg := false) ho hu rfl (by simpa [extR, Op.operands] using hr) hs
      · injection h with h; subst h
        exact does_nilq (neg := true) ho hu rfl (by simpa [extR, Op.operands] using hr) hs
      · cases h
    · cases h
  · cases h

theorem nilqR_loc {neg : Bool} {a : T} {st st' : Sto} (h : Alike (ids a) st st') : nilqR neg st a = nilqR neg st' a := by
  unfold nilqR
  split
  · rfl
  · rw [conT_loc h, conS_loc h]
theorem slZR_loc {k nid : Nat} {a : T} {st st' : Sto} (h : Alike (ids a) st st') (hN : get st nid = get st' nid) : slZR k st nid a = slZR k st' nid a := by
  unfold slZR; rw [conT_loc h, conS_loc h, hN]

theorem ext_loc {x : XO} {nid : Nat} {ts : List T} {st st' : Sto} (hI : ∀ t ∈ ts, Alike (ids t) st st') (hN : get st nid = get st' nid) : extR x st nid ts = extR x st' nid ts := by
  unfold extR
  split
  · exact slZR_loc (hI _ (by simp)) hN
  · exact nilqR_loc (hI _ (by simp))
  · rfl

def opT (P : Program) (s : St) (nid : Nat) (o : Oper) : Option Res :=
  match rsvX P o.op with
  | some x => extR x s.st nid (o.op.operands.toList.map (Operand.t s))
  | none => opT0 P s nid o

theorem does_opT (nid : Nat) {r : Res} (h : opT P s nid o = some r) (hs : r.side) : Does P e o s r.val r.wr := by
  unfold opT at h
  split at h
  · rename_i x hx; exact does_ext hx h hs
  · exact does_opT0 nid h hs

theorem opT_loc {s' : St} {nid : Nat} (hT : ∀ x ∈ o.op.operands.toList, Operand.t s x = Operand.t s' x) (hI : ∀ x ∈ o.op.operands.toList, Alike (ids (Operand.t s x)) s.st s'.st) (hN : get s.st nid = get s'.st nid) :
    opT P s nid o = opT P s' nid o := by
  unfold opT
  split
  · have e1 : o.op.operands.toList.map (Operand.t s) = o.op.operands.toList.map (Operand.t s') := List.map_congr_left hT
    rw [← e1]
    refine ext_loc (fun t ht => ?_) hN
    obtain ⟨x, hx, rfl⟩ := List.mem_map.1 ht
    exact hI x hx
  · exact opT0_loc hT hI hN

theorem rsvX_call {op : Op} {x : XO} (h : rsvX P op = some x) : ∀ c, op ≠ .call c := by
  rintro c rfl
  simp [rsvX] at h
end
end Go.TL
