/- Operations that change no object. -/
import Derived.Test.YtnejebkdlofdoaaZzOps2
namespace Go.TL
set_option linter.unusedSimpArgs false
set_option linter.unusedVariables false

def validId (st : Sto) (id n : Nat) : Prop := match get st id with | some (.arr _ xs _) => xs.length = n | _ => False

theorem validId_iff {st : Sto} {id n : Nat} : validId st id n ↔ ∃ k xs fz, get st id = some (.arr k xs fz) ∧ xs.length = n := by
  unfold validId
  constructor
  · intro h; split at h
    · rename_i k xs fz hg; exact ⟨k, xs, fz, hg, h⟩
    · exact h.elim
  · rintro ⟨k, xs, fz, hg, hn⟩; rw [hg]; exact hn

/-! ### integers, strings, bools -/
def andI (k : IntKind) (a b : Int) : Int := k.wrap (BitVec.ofInt k.bits a &&& BitVec.ofInt k.bits b).toNat
def orI (k : IntKind) (a b : Int) : Int := k.wrap (BitVec.ofInt k.bits a ||| BitVec.ofInt k.bits b).toNat
def xorI (k : IntKind) (a b : Int) : Int := k.wrap (BitVec.ofInt k.bits a ^^^ BitVec.ofInt k.bits b).toNat
def andNotI (k : IntKind) (a b : Int) : Int := k.wrap (BitVec.ofInt k.bits a &&& ~~~ BitVec.ofInt k.bits b).toNat
def shlI (k : IntKind) (a b : Int) : Int := k.wrap (a * 2 ^ (min b.toNat k.bits))
def shrI (k : IntKind) (a b : Int) : Int := a.fdiv (2 ^ (min b.toNat k.bits))

def ret (x : T) : Option Res := some ⟨True, x, []⟩
def retI (k : IntKind) (n : Int) : Option Res := ret (.v (.int k n))
def retB (b : Bool) : Option Res := ret (.v (.bool b))

def intT (op : BinOp) (k : IntKind) (a b : Int) : Option Res :=
  match op with
  | .add => retI k (k.wrap (a + b))
  | .sub => retI k (k.wrap (a - b))
  | .mul => retI k (k.wrap (a * b))
  | .quo => some ⟨b ≠ 0, .v (.int k (k.wrap (a.tdiv b))), []⟩
  | .rem => some ⟨b ≠ 0, .v (.int k (a.tmod b)), []⟩
  | .and => retI k (andI k a b)
  | .or => retI k (orI k a b)
  | .xor => retI k (xorI k a b)
  | .andNot => retI k (andNotI k a b)
  | .shl => some ⟨0 ≤ b, .v (.int k (shlI k a b)), []⟩
  | .shr => some ⟨0 ≤ b, .v (.int k (shrI k a b)), []⟩
  | .eql => retB (a == b)
  | .neq => retB (a != b)
  | .lss => retB (a < b)
  | .leq => retB (a ≤ b)
  | .gtr => retB (a > b)
  | .geq => retB (a ≥ b)

def strT (op : BinOp) (a b : ByteArray) : Option Res :=
  match op with
  | .add => some ⟨a.size + b.size ≤ 9223372036854775807, .v (.string (a ++ b)), []⟩
  | .eql => retB (a.toList == b.toList)
  | .neq => retB (!(a.toList == b.toList))
  | .lss => retB (Op.bytesLess a.toList b.toList)
  | .leq => retB (Op.bytesLess a.toList b.toList || a.toList == b.toList)
  | .gtr => retB (!(Op.bytesLess a.toList b.toList || a.toList == b.toList))
  | .geq => retB (!Op.bytesLess a.toList b.toList)
  | _ => none

def isShift : BinOp → Bool
  | .shl | .shr => true
  | _ => false

def isBoolT (P : Program) (t : TypeId) : Bool := match P.underlying t with | some .bool => true | _ => false

def binT (P : Program) (op : BinOp) (ty : TypeId) (x y : T) : Option Res :=
  match x, y with
  | .v (.int k a), .v (.int k' b) => if isShift op || k == k' then intT op k a b else none
  | .v (.string a), .v (.string b) => strT op a b
  | .v (.bool a), .v (.bool b) => if isBoolT P ty then (match op with | .eql => retB (a == b) | .neq => retB (a != b) | _ => none) else none
  | _, _ => none

theorem run_equalIn_bool {P : Program} {t : TypeId} (h : P.underlying t = some .bool) (d : Nat) (a b : Bool) (w : World) :
    (Op.equalIn (d + 1) t (.bool a) (.bool b)).run P w = .ok (a == b) w := by
  unfold Op.equalIn
  simp [run_underlying h]
theorem run_equal_bool {P : Program} {t : TypeId} (h : P.underlying t = some .bool) (a b : Bool) (w : World) :
    (Op.equal t (.bool a) (.bool b)).run P w = .ok (a == b) w := run_equalIn_bool h 9999 a b w

section
variable {P : Program} {e : Env} {o : Oper} {s : St}

theorem does_bin {op : BinOp} {ty ty2 : TypeId} {x y : Operand} (ho : o.op = .binOp op ty x y ty2) {r : Res} (h : binT P op ty (Operand.t s x) (Operand.t s y) = some r) (hs : r.side) : Does P e o s r.val r.wr := by
  unfold binT at h
  split at h
  · rename_i k a k' b hx hy
    split at h
    · rename_i hk
      have key : r.wr = [] := by
        unfold intT at h
        cases op <;> simp [retI, retB, ret] at h <;> subst h <;> rfl
      rw [key]
      refine Does.of_value fun ι act w hR => ?_
      have h1 := (hx ▸ hR.rp x).v_inv
      have h2 := (hy ▸ hR.rp y).v_inv
      by_cases hkk : k = k'
      · subst hkk
        unfold intT at h
        cases op <;> simp [retI, retB, ret] at h <;> subst h <;>
          refine ⟨_, ?_, .im (.v _)⟩ <;>
          simp only [execOp, ho, h1, h2, eqGuard, binOp, Op.intArith, Op.intBits, Op.intDiv, Op.intCmp, Op.shift] <;> simp_all [andI, orI, xorI, andNotI, shlI, shrI]
        all_goals (intro hneg; omega)
      · unfold intT at h
        cases op <;> simp [isShift, hkk] at hk <;> simp [retI, retB, ret] at h <;> subst h <;>
          refine ⟨_, ?_, .im (.v _)⟩ <;>
          simp only [execOp, ho, h1, h2, eqGuard, binOp, Op.shift] <;> simp_all [shlI, shrI]
        all_goals (intro hneg; omega)
    · cases h
  · rename_i a b hx hy
    have key : r.wr = [] := by
      unfold strT at h
      cases op <;> simp [retB, ret] at h <;> subst h <;> rfl
    rw [key]
    refine Does.of_value fun ι act w hR => ?_
    have h1 := (hx ▸ hR.rp x).v_inv
    have h2 := (hy ▸ hR.rp y).v_inv
    unfold strT at h
    cases op <;> simp [retB, ret] at h <;> subst h <;>
      refine ⟨_, ?_, .im (.v _)⟩ <;>
      simp only [execOp, ho, h1, h2, eqGuard, binOp, Op.stringOp] <;> simp_all [IntKind.max, IntKind.bits, IntKind.signed]
    all_goals omega
  · rename_i a b hx hy
    split at h
    · rename_i hb
      have hbt : P.underlying ty = some .bool := by
        unfold isBoolT at hb
        split at hb
        · rename_i hu; exact hu
        · cases hb
      have key : r.wr = [] := by
        cases op <;> simp [retB, ret] at h <;> subst h <;> rfl
      rw [key]
      refine Does.of_value fun ι act w hR => ?_
      have h1 := (hx ▸ hR.rp x).v_inv
      have h2 := (hy ▸ hR.rp y).v_inv
      cases op <;> simp [retB, ret] at h <;> subst h <;>
        refine ⟨_, ?_, .im (.v _)⟩ <;>
        simp [execOp, ho, h1, h2, eqGuard, binOp, run_equal_bool hbt]
      all_goals (cases a <;> cases b <;> rfl)
    · cases h
  · cases h

def unT (op : UnOp) (x : T) : Option Res :=
  match op, x with
  | .not, .v (.bool b) => retB (!b)
  | .neg, .v (.int k n) => retI k (k.wrap (0 - n))
  | .xor, .v (.int k n) => retI k (xorI k (if k.signed then -1 else k.max) n)
  | _, _ => none

theorem does_un {op : UnOp} {ty : TypeId} {x : Operand} (ho : o.op = .unOp op ty x) {r : Res} (h : unT op (Operand.t s x) = some r) (hs : r.side) : Does P e o s r.val r.wr := by
  unfold unT at h
  split at h
  all_goals first | (cases h; done) | skip
  all_goals
    rename_i hx
    first | (simp only [retB, ret, Option.some.injEq] at h; subst h) | (simp only [retI, ret, Option.some.injEq] at h; subst h)
    refine Does.of_value fun ι act w hR => ?_
    have h1 := (hx ▸ hR.rp x).v_inv
    refine ⟨_, ?_, .im (.v _)⟩
    simp [execOp, ho, h1, Op.unary, Op.intArith, Op.intBits, xorI]

theorem does_move {x : Operand} (ho : o.op = .move x ∨ o.op = .assign x) : Does P e o s (Operand.t s x) [] := by
  refine Does.of_value fun ι act w hR => ⟨_, ?_, hR.rp x⟩
  rcases ho with ho | ho <;> simp [execOp, ho]

def pickT (c a b : T) : Option Res :=
  match c with
  | .v (.bool c) => ret (bif c then a else b)
  | _ => none

theorem does_pick {c x y : Operand} (ho : o.op = .pick c x y) {r : Res} (h : pickT (Operand.t s c) (Operand.t s x) (Operand.t s y) = some r) (hs : r.side) : Does P e o s r.val r.wr := by
  unfold pickT at h
  split at h
  · rename_i b hc
    simp [ret] at h
    subst h
    refine Does.of_value fun ι act w hR => ?_
    have h1 := (hc ▸ hR.rp c).v_inv
    have h2 := hR.rp x
    have h3 := hR.rp y
    refine ⟨if b then act.eval x else act.eval y, ?_, ?_⟩
    · simp [execOp, ho, h1, asBool]
    · cases b
      · exact h3
      · exact h2
  · cases h

def extractT (x : T) (i : Nat) : Option Res :=
  match x with
  | .tup vs => match vs[i]? with | some v => ret v | none => none
  | _ => none

theorem does_extract {x : Operand} {i : Nat} (ho : o.op = .extract x i) {r : Res} (h : extractT (Operand.t s x) i = some r) (hs : r.side) : Does P e o s r.val r.wr := by
  unfold extractT at h
  split at h
  · rename_i vs hx
    split at h
    · rename_i v hv
      simp [ret] at h
      subst h
      refine Does.of_value fun ι act w hR => ?_
      obtain ⟨us, hu, hl, hc⟩ := (hx ▸ hR.rp x).tup_inv
      have hi : i < us.length := by rw [hl]; exact (List.getElem?_eq_some_iff.1 hv).1
      refine ⟨us[i], ?_, hc i _ _ (by simp [hi]) hv⟩
      simp [execOp, ho, hu, Instr.extract, hi]
    · cases h
  · cases h

def makeFuncT (fn : Fn) (first : Array Operand) (caps : List T) : Option Res :=
  match fn with
  | .func f => if first.size = 0 then ret (.clo f caps) else none
  | _ => none

theorem does_makeFunc {fn : Fn} {first caps : Array Operand} (ho : o.op = .makeFunc fn first caps) {r : Res} (h : makeFuncT fn first (caps.toList.map (Operand.t s)) = some r) (hs : r.side) : Does P e o s r.val r.wr := by
  unfold makeFuncT at h
  split at h
  · split at h
    · rename_i f hf
      simp [ret] at h
      subst h
      refine Does.of_value fun ι act w hR => ?_
      refine ⟨.func (.func f) #[] (caps.map act.eval), ?_, ?_⟩
      · have : first = #[] := Array.eq_empty_of_size_eq_zero hf
        simp [execOp, ho, Instr.makeFunc, this]
      · have := Rp.clo (st := s.st) (ι := ι) (w := w) (A := Av e s.st ι w) f (caps.toList.map act.eval) (caps.toList.map (Operand.t s)) (by simp) (fun j u c hu hc => by
          simp only [List.getElem?_map] at hu hc
          cases hj : caps.toList[j]? with
          | none => simp [hj] at hu
          | some q => simp [hj] at hu hc; subst hu hc; exact hR.rp q)
        have he : caps.map act.eval = (caps.toList.map act.eval).toArray := by rw [← Array.toList_map]
        rw [he]; exact this
    · cases h
  · cases h

def nilCheckT (st : Sto) (x : T) : Option Res :=
  match x with
  | .ptr id n i j => some ⟨validId st id n, .ptr id n i j, []⟩
  | .ip cs => ret (.ip cs)
  | .clo f cs => ret (.clo f cs)
  | _ => none

theorem does_nilCheck {x : Operand} (ho : o.op = .nilCheck x) {r : Res} (h : nilCheckT s.st (Operand.t s x) = some r) (hs : r.side) : Does P e o s r.val r.wr := by
  unfold nilCheckT at h
  split at h
  · rename_i id n i j hx
    injection h with h; subst h
    obtain ⟨k, xs, fz, hg, hn⟩ := validId_iff.1 hs
    refine Does.of_value fun ι act w hR => ?_
    have h0 := hx ▸ hR.rp x
    obtain ⟨b, cap, hi, hv⟩ := h0.ptr_inv hg hn
    refine ⟨_, ?_, h0⟩
    simp [execOp, ho, hv]
  · rename_i cs hx
    simp [ret] at h; subst h
    refine Does.of_value fun ι act w hR => ?_
    have h0 := hx ▸ hR.rp x
    obtain ⟨ad, us, hv, _⟩ := h0.ip_inv
    refine ⟨_, ?_, h0⟩
    simp [execOp, ho, hv]
  · rename_i f cs hx
    simp [ret] at h; subst h
    refine Does.of_value fun ι act w hR => ?_
    have h0 := hx ▸ hR.rp x
    obtain ⟨us, hv, _⟩ := h0.clo_inv
    refine ⟨_, ?_, h0⟩
    simp [execOp, ho, hv]
  · cases h

/-! ### fields -/
def fieldAddrT (P : Program) (st : Sto) (ty : TypeId) (x : T) (f : Nat) : Option Res :=
  match fdT P ty f, x with
  | some (off, n, _), .ptr id m i j => some ⟨n ≠ 0 ∧ validId st id m, .ptr id m i (j + off), []⟩
  | some (off, n, _), .ip cs => some ⟨n ≠ 0 ∧ off ≤ cs.length, .ip (cs.drop off), []⟩
  | _, _ => none

theorem fdT_spec {ty : TypeId} {f off n : Nat} {l : Option Nat} (h : fdT P ty f = some (off, n, l)) :
    ∃ fs fl i, P.underlying ty = some (.struct fs) ∧ fs[f]? = some fl ∧ fl.offset = off ∧ P.info? fl.type = some i ∧ i.size = n ∧ ldT P fl.type = some l := by
  unfold fdT at h
  split at h
  · rename_i fs hu
    split at h
    · rename_i fl hf
      split at h
      · rename_i n' l' hn hl
        simp at h
        obtain ⟨rfl, rfl, rfl⟩ := h
        unfold szT at hn
        cases hi : P.info? fl.type with
        | none => simp [hi] at hn
        | some i => simp [hi] at hn; exact ⟨fs, fl, i, hu, hf, rfl, hi, hn, hl⟩
      · cases h
    · cases h
  · cases h

theorem Im.ip_drop {w : World} {A : Addr → Prop} {a : Addr} {cs : List T} {us : List Value} (hl : us.length = cs.length)
    (h1 : ∀ (j : Nat) (u : Value), us[j]? = some u → A (a.add j) ∧ w.cell? (a.add j) = some u ∧ u.oneCell' = true) (h2 : ∀ (j : Nat) (u : Value) (c : T), us[j]? = some u → cs[j]? = some c → Im w A u c) (off : Nat) :
    Im w A (.pointer (some (a.add off))) (.ip (cs.drop off)) := by
  refine .ip _ _ (us.drop off) (by simp [hl]) (fun j u hu => ?_) (fun j u c hu hc => ?_)
  · rw [List.getElem?_drop] at hu; rw [add_add]; exact h1 _ u hu
  · rw [List.getElem?_drop] at hu hc; exact h2 _ u c hu hc

theorem does_fieldAddr {ty : TypeId} {x : Operand} {f : Nat} (ho : o.op = .fieldAddr ty x f) {r : Res} (h : fieldAddrT P s.st ty (Operand.t s x) f = some r) (hs : r.side) : Does P e o s r.val r.wr := by
  unfold fieldAddrT at h
  split at h
  · rename_i off n l id m i j hf hx
    injection h with h; subst h
    obtain ⟨hn, hv⟩ := hs
    obtain ⟨fs, fl, inf, h1, h2, h3, h4, h5, _⟩ := fdT_spec hf
    obtain ⟨k, xs, fz, hg, hm⟩ := validId_iff.1 hv
    refine Does.of_value fun ι act w hR => ?_
    have h0 := hx ▸ hR.rp x
    obtain ⟨b, cap, hi, hv⟩ := h0.ptr_inv hg hm
    refine ⟨.pointer (some ⟨b, i * k + (j + off), none⟩), ?_, ?_⟩
    · simp [execOp, ho, hv, Instr.fieldAt, run_underlying h1, h2, Instr.sureAddr, fieldPlace, sizeOf, typeInfo, h4, h5, hn, h3, addr_add, Nat.add_assoc]
    · refine .ptr _ _ _ _ _ (by rw [hg]; simp) fun k' xs' fz' hg' => ?_
      rw [hg] at hg'; injection hg' with hg'; injection hg' with e1 e2 e3
      subst e1 e2 e3
      exact ⟨by omega, fun _ => ⟨b, cap, hi, rfl⟩⟩
  · rename_i off n l cs hf hx
    injection h with h; subst h
    obtain ⟨hn, hv⟩ := hs
    obtain ⟨fs, fl, inf, h1, h2, h3, h4, h5, _⟩ := fdT_spec hf
    refine Does.of_value fun ι act w hR => ?_
    obtain ⟨ad, us, hv, hl, g1, g2⟩ := (hx ▸ hR.rp x).ip_inv
    refine ⟨_, ?_, .im (Im.ip_drop hl g1 g2 off)⟩
    simp [execOp, ho, hv, Instr.fieldAt, run_underlying h1, h2, Instr.sureAddr, fieldPlace, sizeOf, typeInfo, h4, h5, hn, h3]
  · cases h

def fieldT (P : Program) (ty : TypeId) (x : T) (f : Nat) : Option Res :=
  match fdT P ty f, x with
  | some (off, _, l), .agg cs => some ⟨need l off ≤ cs.length, partT l off cs, []⟩
  | _, _ => none

theorem run_part_T {t : TypeId} {l : Option Nat} (hl : ldT P t = some l) (us : List Value) (j : Nat) (hj : need l j ≤ us.length) (w : World) :
    (part t us.toArray j).run P w = .ok (partV l j us) w := by
  unfold ldT at hl
  split at hl
  · rename_i d i hd hi
    have agg : partV (some i.size) j us = .agg (us.toArray.extract j (j + i.size)) := by
      simp only [partV]
      congr 1
      apply Array.toList_inj.1
      rw [Array.toList_extract]
      simp [List.extract]
    cases d <;> simp only [Option.some.injEq] at hl <;> subst hl <;>
      first
      | (rw [agg]; simp [part, isAgg, run_underlying hd, sizeOf, typeInfo, hi]; done)
      | (simp only [need] at hj
         obtain ⟨u, hu⟩ : ∃ u, us[j]? = some u := ⟨us[j], by simp⟩
         have hp : partV none j us = u := by simp [partV, List.getD, hu]
         rw [hp]
         simp [part, isAgg, run_underlying hd, hu])
  · cases hl

theorem does_field {ty : TypeId} {x : Operand} {f : Nat} (ho : o.op = .field ty x f) {r : Res} (h : fieldT P ty (Operand.t s x) f = some r) (hs : r.side) : Does P e o s r.val r.wr := by
  unfold fieldT at h
  split at h
  · rename_i off n l cs hf hx
    injection h with h; subst h
    obtain ⟨fs, fl, inf, h1, h2, h3, h4, h5, h6⟩ := fdT_spec hf
    refine Does.of_value fun ι act w hR => ?_
    obtain ⟨us, hv, hl, hc⟩ := (hx ▸ hR.rp x).agg_inv
    refine ⟨partV l off us, ?_, rp_part hl hc l off hs⟩
    have := run_part_T (P := P) h6 us off (by rw [hl]; exact hs) w
    simp [execOp, ho, hv, Instr.field, run_underlying h1, h2, asAgg, h3, this]
  · cases h

end
end Go.TL
