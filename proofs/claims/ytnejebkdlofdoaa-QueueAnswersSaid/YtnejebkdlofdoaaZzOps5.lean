/- Lengths, conversions, literals, make, append. -/
import Derived.Test.YtnejebkdlofdoaaZzOps4
namespace Go.TL
set_option linter.unusedSimpArgs false
set_option linter.unusedVariables false

def byteT (b : UInt8) : T := .v (.int .u8 b.toNat)
def unbyte : T → UInt8
  | .v (.int .u8 n) => UInt8.ofNat n.toNat
  | _ => 0
def isByte : T → Bool
  | .v (.int .u8 _) => true
  | _ => false

def byteN : T → Int
  | .v (.int _ n) => n
  | _ => 0

theorem unbyte_byteT (b : UInt8) : unbyte (byteT b) = b := by simp [unbyte, byteT]
theorem map_unbyte (l : List UInt8) : (l.map byteT).map unbyte = l := by
  rw [List.map_map]
  conv => rhs; rw [← List.map_id l]
  exact List.map_congr_left fun b _ => unbyte_byteT b
theorem isByte_byteT (b : UInt8) : isByte (byteT b) = true := rfl

/-- the contents of a slice, whatever holds it: the elements, the width -/
def conT (st : Sto) (x : T) : Option (Option Nat × List T) :=
  match x with
  | .sl k xs => some (some k, xs)
  | .asl id m => match get st id with
    | some (.arr k xs _) => some (some k, xs)
    | _ => none
  | .v (.slice none 0 0) => some (none, [])
  | .vw id _ lo len => match get st id with
    | some (.arr k xs _) => some (some k, (xs.drop lo).take len)
    | _ => none
  | _ => none
/-- an array's slice has the length that its value says -/
def conS (st : Sto) (x : T) : Prop :=
  match x with
  | .asl id m => validId st id m
  | .vw id m _ _ => validId st id m
  | _ => True

section
variable {P : Program} {e : Env} {o : Oper} {s : St}

/-- what a slice's value is, and its cells -/
theorem Rel.con {ι : Iota} {a : Act} {w : World} (hR : Rel e s ι a w) {v : Value} {x : T} (hv : Rp s.st ι w (Av e s.st ι w) v x) {k : Option Nat} {xs : List T} (h : conT s.st x = some (k, xs)) (hs : conS s.st x) :
    ∃ (p : Option Addr) (cap : Nat) (us : List Value), v = .slice p xs.length cap ∧ xs.length ≤ cap ∧ (∀ k', k = some k' → ∀ y ∈ xs, y.cells.length = k') ∧ (k = none → xs = []) ∧ us.length = (flat xs).length ∧
      (0 < xs.length → p ≠ none) ∧
      (∀ (j : Nat) (u : Value), us[j]? = some u → ∃ ad, p = some ad ∧ w.cell? (ad.add j) = some u ∧ u.oneCell' = true) ∧
      (∀ (j : Nat) (u : Value) (c : T), us[j]? = some u → (flat xs)[j]? = some c → Rp s.st ι w (Av e s.st ι w) u c) := by
  unfold conT at h
  split at h
  · injection h with h; injection h with h1 h2
    subst h1 h2
    obtain ⟨p, cap, us, hv, c1, c2, c3, c4, c5, c6⟩ := hv.im_sl.sl_inv
    refine ⟨p, cap, us, hv, c1, ?_, by simp, c3, c4, fun j u hu => ?_, fun j u c hu hc => .im (c6 j u c hu hc)⟩
    · intro k' hk'
      injection hk' with hk'
      subst hk'
      exact c2
    · obtain ⟨ad, e1, _, e2, e3⟩ := c5 j u hu
      exact ⟨ad, e1, e2, e3⟩
  · rename_i id m
    split at h
    · rename_i k' xs' fz hg
      injection h with h; injection h with h1 h2
      subst h1 h2
      obtain ⟨k2, xs2, fz2, hg2, hm⟩ := validId_iff.1 hs
      rw [hg] at hg2; injection hg2 with hg2; injection hg2 with e1 e2 e3
      subst e1 e2 e3
      have hv := hv.asl_inv hg hm
      obtain ⟨hk, hob⟩ := hR.ob id _ hg
      rcases hob with ⟨g4, rfl⟩ | ⟨b, cap, cur, E, g4, g5, g6, g7, g8, g9⟩
      · simp only [List.length_nil] at hm; subst hm
        rw [g4] at hv
        obtain ⟨p, hv⟩ := hv
        exact ⟨p, 0, [], hv, Nat.le_refl _, by simp, by simp, by simp [flat], by simp, by simp, by simp⟩
      · have hfl := flat_length hk
        have hle : xs'.length * k' ≤ cap * k' := Nat.mul_le_mul_right k' g7
        refine ⟨some ⟨b, 0, none⟩, cap, cur.toList.take (xs'.length * k'), by rw [g4] at hv; rw [hm]; exact hv, g7, ?_, by simp, by rw [hfl]; simp; omega, by simp, fun j u hu => ?_, fun j u c hu hc => ?_⟩
        · intro k'' hk''
          injection hk'' with hk''
          subst hk''
          exact hk
        · rw [List.getElem?_take] at hu
          split at hu
          · rename_i hj
            obtain ⟨c, hc⟩ : ∃ c, (flat xs')[j]? = some c := ⟨(flat xs')[j]'(by rw [hfl]; exact hj), by simp [hfl, hj]⟩
            refine ⟨_, rfl, ?_, (g9 j u c (by simpa using hu) hc).1⟩
            rw [addr_add, cell_row g5]; simpa using hu
          · cases hu
        · rw [List.getElem?_take] at hu
          split at hu
          · exact (g9 j u c (by simpa using hu) hc).2
          · cases hu
    · cases h
  · injection h with h; injection h with h1 h2
    subst h1 h2
    have := hv.v_inv
    exact ⟨none, 0, [], this, Nat.le_refl _, by simp, by simp, by simp [flat], by simp, by simp, by simp⟩
  · rename_i id m lo len
    split at h
    · rename_i k' xs' fz hg
      injection h with h; injection h with h1 h2
      subst h1 h2
      obtain ⟨k2, xs2, fz2, hg2, hm⟩ := validId_iff.1 hs
      rw [hg] at hg2; injection hg2 with hg2; injection hg2 with e1 e2 e3
      subst e1 e2 e3
      obtain ⟨hle0, hvw⟩ := hv.vw_inv hg hm
      clear hv
      have hv := hvw
      clear hvw
      obtain ⟨hk, hob⟩ := hR.ob id _ hg
      have hxl : ((xs'.drop lo).take len).length = len := by simp; omega
      have hk2 : ∀ y ∈ (xs'.drop lo).take len, y.cells.length = k' := fun y hy => hk y (List.mem_of_mem_drop (List.mem_of_mem_take hy))
      rw [hxl]
      rcases hob with ⟨g4, rfl⟩ | ⟨b, cap, cur, E, g4, g5, g6, g7, g8, g9⟩
      · simp only [List.length_nil] at hm; subst hm
        rw [g4] at hv
        obtain ⟨p, hv⟩ := hv
        have : len = 0 := by omega
        subst this
        exact ⟨p, 0, [], hv, Nat.le_refl _, by simp, by simp, by simp [flat], by simp, by simp, by simp⟩
      · have hfl := flat_length hk
        have hle : xs'.length * k' ≤ cap * k' := Nat.mul_le_mul_right k' g7
        have hle2 : (lo + len) * k' ≤ xs'.length * k' := Nat.mul_le_mul_right k' (by omega)
        have hfl2 : flat ((xs'.drop lo).take len) = ((flat xs').drop (lo * k')).take (len * k') := by
          rw [flat_take (fun x hx => hk x (List.mem_of_mem_drop hx)), flat_drop hk]
        rw [g4] at hv
        obtain ⟨p, hv, hp⟩ := hv
        rw [Nat.add_mul] at hle2
        have hat : ∀ (j : Nat) (u : Value), ((cur.toList.drop (lo * k')).take (len * k'))[j]? = some u → j < len * k' ∧ cur[lo * k' + j]? = some u := by
          intro j u hu
          rw [List.getElem?_take] at hu
          split at hu
          · rename_i hj
            rw [List.getElem?_drop] at hu
            exact ⟨hj, by simpa using hu⟩
          · cases hu
        refine ⟨p, cap - lo, (cur.toList.drop (lo * k')).take (len * k'), hv, by omega, ?_, by simp, by rw [flat_length hk2, hxl]; simp; omega, fun hpos => by rw [hp (by omega)]; simp, fun j u hu => ?_, fun j u c hu hc => ?_⟩
        · intro k'' hk''
          injection hk'' with hk''
          subst hk''
          exact hk2
        · obtain ⟨hj, hu⟩ := hat j u hu
          have hlen : 0 < len := by
            rcases Nat.eq_zero_or_pos len with h0 | h0
            · subst h0; simp at hj
            · exact h0
          obtain ⟨c, hc⟩ : ∃ c, (flat xs')[lo * k' + j]? = some c := ⟨(flat xs')[lo * k' + j]'(by rw [hfl]; omega), by simp [hfl]⟩
          refine ⟨_, hp (by omega), ?_, (g9 _ u c hu hc).1⟩
          rw [addr_add, cell_row g5]; exact hu
        · obtain ⟨hj, hu⟩ := hat j u hu
          rw [hfl2, List.getElem?_take, if_pos hj, List.getElem?_drop] at hc
          exact (g9 _ u c hu hc).2
    · cases h
  · cases h

/-! ### len -/
def lenT (P : Program) (st : Sto) (ty : TypeId) (x : T) : Option Res :=
  match P.underlying ty, x with
  | some .string, .v (.string s) => retI .i64 s.size
  | some (.slice _), .asl id m => some ⟨validId st id m, .v (.int .i64 m), []⟩
  | some (.slice _), .sl _ xs => retI .i64 xs.length
  | some (.slice _), .v (.slice none 0 0) => retI .i64 0
  | some (.slice _), .vw id m lo len => some ⟨validId st id m, .v (.int .i64 len), []⟩
  | some (.array n _), _ => retI .i64 n
  | _, _ => none

theorem does_len {x : Operand} {ty : TypeId} {pos : Nat} (ho : o.op = .call { callee := .builtin .len, args := #[x], argTypes := #[ty] }) {r : Res} (h : lenT P s.st ty (Operand.t s x) = some r) (hs : r.side) : Does P e o s r.val r.wr := by
  unfold lenT at h
  split at h
  · rename_i str hu hx
    simp [retI, ret] at h; subst h
    refine Does.of_value fun ι act w hR => ⟨_, ?_, .im (.v _)⟩
    have hv := (hx ▸ hR.rp x).v_inv
    simp [execOp, ho, resolve, invoke, builtin, Builtin.len_, hv, run_underlying hu, goInt]
  · rename_i el id m hu hx
    injection h with h; subst h
    obtain ⟨k, xs, fz, hg, hm⟩ := validId_iff.1 hs
    refine Does.of_value fun ι act w hR => ⟨_, ?_, .im (.v _)⟩
    have hv := (hx ▸ hR.rp x).asl_inv hg hm
    have : ∃ p c, act.eval x = .slice p m c := by
      rcases (hR.ob id _ hg).2 with ⟨g4, h0⟩ | ⟨b, cap, _, _, g4, _⟩
      · subst h0; simp at hm; subst hm; rw [g4] at hv; obtain ⟨p, hv⟩ := hv; exact ⟨_, _, hv⟩
      · rw [g4] at hv; exact ⟨_, _, hv⟩
    obtain ⟨p, c, hv⟩ := this
    simp [execOp, ho, resolve, invoke, builtin, Builtin.len_, hv, run_underlying hu, goInt]
  · rename_i el k xs hu hx
    simp [retI, ret] at h; subst h
    refine Does.of_value fun ι act w hR => ⟨_, ?_, .im (.v _)⟩
    obtain ⟨p, cap, us, hv, _⟩ := (hx ▸ hR.rp x).im_sl.sl_inv
    simp [execOp, ho, resolve, invoke, builtin, Builtin.len_, hv, run_underlying hu, goInt]
  · rename_i el hu hx
    simp [retI, ret] at h; subst h
    refine Does.of_value fun ι act w hR => ⟨_, ?_, .im (.v _)⟩
    have hv := (hx ▸ hR.rp x).v_inv
    simp [execOp, ho, resolve, invoke, builtin, Builtin.len_, hv, run_underlying hu, goInt]
  · rename_i el id m lo len hu hx
    injection h with h; subst h
    obtain ⟨k, xs, fz, hg, hm⟩ := validId_iff.1 hs
    refine Does.of_value fun ι act w hR => ⟨_, ?_, .im (.v _)⟩
    obtain ⟨hle, hv⟩ := (hx ▸ hR.rp x).vw_inv hg hm
    have : ∃ p c, act.eval x = .slice p len c := by
      rcases (hR.ob id _ hg).2 with ⟨g4, h0⟩ | ⟨b, cap, _, _, g4, _⟩
      · subst h0; simp at hm; subst hm; rw [g4] at hv; obtain ⟨p, hv⟩ := hv
        have : len = 0 := by omega
        subst this; exact ⟨_, _, hv⟩
      · rw [g4] at hv; obtain ⟨p, hv, _⟩ := hv; exact ⟨_, _, hv⟩
    obtain ⟨p, c, hv⟩ := this
    simp [execOp, ho, resolve, invoke, builtin, Builtin.len_, hv, run_underlying hu, goInt]
  · rename_i n el hu
    simp [retI, ret] at h; subst h
    refine Does.of_value fun ι act w hR => ⟨_, ?_, .im (.v _)⟩
    simp [execOp, ho, resolve, invoke, builtin, Builtin.len_, run_underlying hu, goInt]
  · cases h

/-! ### min, max -/
def intsT : List T → Option (List Int)
  | [] => some []
  | .v (.int .i64 n) :: r => (intsT r).map (n :: ·)
  | _ => none
def minI (a b : Int) : Int := if b < a then b else a
def maxI (a b : Int) : Int := if b > a then b else a
def foldT (f : Int → Int → Int) (xs : List T) : Option Res :=
  match intsT xs with
  | some (n :: ns) => retI .i64 (ns.foldl f n)
  | _ => none

theorem intsT_spec {ι : Iota} {act : Act} {w : World} (hR : Rel e s ι act w) : ∀ (args : List Operand) (ns : List Int), intsT (args.map (Operand.t s)) = some ns → args.map act.eval = ns.map (Value.int .i64)
  | [], ns, h => by simp [intsT] at h; subst h; rfl
  | x :: r, ns, h => by
    simp only [List.map_cons] at h
    generalize hx : Operand.t s x = tx at h
    unfold intsT at h
    split at h
    · rename_i heq; cases heq
    · rename_i n r' heq
      injection heq with h1 h2
      subst h1 h2
      cases hr : intsT (r.map (Operand.t s)) with
      | none => simp [hr] at h
      | some ms =>
        simp [hr] at h
        subst h
        have := intsT_spec hR r ms hr
        simp [this, (hx ▸ hR.rp x).v_inv]
    · cases h

theorem run_foldMin {P : Program} {w : World} : ∀ (ns : List Int) (n : Int), ((ns.map (Value.int .i64)).foldlM Builtin.min2 (.int .i64 n)).run P w = .ok (.int .i64 (ns.foldl minI n)) w
  | [], n => by simp
  | m :: ns, n => by
    simp only [List.map_cons, List.foldlM_cons, Sem.run_bind, Builtin.min2, List.foldl_cons]
    have := run_foldMin (P := P) (w := w) ns (minI n m)
    simpa [minI] using this
theorem run_foldMax {P : Program} {w : World} : ∀ (ns : List Int) (n : Int), ((ns.map (Value.int .i64)).foldlM Builtin.max2 (.int .i64 n)).run P w = .ok (.int .i64 (ns.foldl maxI n)) w
  | [], n => by simp
  | m :: ns, n => by
    simp only [List.map_cons, List.foldlM_cons, Sem.run_bind, Builtin.max2, List.foldl_cons]
    have := run_foldMax (P := P) (w := w) ns (maxI n m)
    simpa [maxI] using this

theorem does_min {args : Array Operand} {tys : Array TypeId} (ho : o.op = .call { callee := .builtin .min, args := args, argTypes := tys }) {r : Res} (h : foldT minI (args.toList.map (Operand.t s)) = some r) (hs : r.side) : Does P e o s r.val r.wr := by
  unfold foldT at h
  split at h
  · rename_i n ns hi
    simp [retI, ret] at h; subst h
    refine Does.of_value fun ι act w hR => ⟨_, ?_, .im (.v _)⟩
    have := intsT_spec hR _ _ hi
    have ha : (args.map act.eval).toList = (n :: ns).map (Value.int .i64) := by rw [Array.toList_map]; exact this
    simp only [execOp, ho, resolve, invoke, builtin, Builtin.min_, Sem.run_bind, Sem.run_pure, Result.andThen_ok, ha, List.map_cons, run_foldMin]
  · cases h
theorem does_max {args : Array Operand} {tys : Array TypeId} (ho : o.op = .call { callee := .builtin .max, args := args, argTypes := tys }) {r : Res} (h : foldT maxI (args.toList.map (Operand.t s)) = some r) (hs : r.side) : Does P e o s r.val r.wr := by
  unfold foldT at h
  split at h
  · rename_i n ns hi
    simp [retI, ret] at h; subst h
    refine Does.of_value fun ι act w hR => ⟨_, ?_, .im (.v _)⟩
    have := intsT_spec hR _ _ hi
    have ha : (args.map act.eval).toList = (n :: ns).map (Value.int .i64) := by rw [Array.toList_map]; exact this
    simp only [execOp, ho, resolve, invoke, builtin, Builtin.max_, Sem.run_bind, Sem.run_pure, Result.andThen_ok, ha, List.map_cons, run_foldMax]
  · cases h

/-! ### conversions -/
def isU8 (P : Program) (t : TypeId) : Bool := match P.underlying t with | some (.int .u8) => true | _ => false

def convT (P : Program) (st : Sto) (src dst : TypeId) (x : T) : Option Res :=
  match P.underlying src, P.underlying dst with
  | some _, some (.int k) => match x with
    | .v (.int _ n) => retI k (k.wrap n)
    | _ => none
  | some (.slice el), some .string => match conT st x with
    | some (_, xs) => if isU8 P el then some ⟨conS st x ∧ ∀ y ∈ xs, isByte y = true, .v (.string ⟨(xs.map unbyte).toArray⟩), []⟩ else none
    | none => none
  | some _, some .string => match x with
    | .v (.string s) => ret (.v (.string s))
    | _ => none
  | some _, some (.slice el) => match x with
    | .v (.string s) => if isU8 P el then ret (.sl 1 (s.data.toList.map byteT)) else none
    | _ => none
  | _, _ => none

theorem foldl_push (ns : List UInt8) (r : ByteArray) : ns.foldl (fun r b => r.push b) r = ⟨r.data ++ ns.toArray⟩ := by
  induction ns generalizing r with
  | nil => simp
  | cons b ns ih =>
    simp only [List.foldl_cons]
    rw [ih]
    simp [ByteArray.push]

theorem flat_bytes {xs : List T} (h : ∀ y ∈ xs, isByte y = true) : flat xs = xs := by
  induction xs with
  | nil => rfl
  | cons x xs ih =>
    have h1 := h x (by simp)
    have h2 := ih (fun y hy => h y (by simp [hy]))
    simp only [flat, List.flatMap_cons] at h2 ⊢
    rw [h2]
    cases x <;> first | rfl | (simp [isByte] at h1; done)

theorem modify_push {α : Type} (a : Array α) (x : α) (f : α → α) : (a.push x).modify a.size f = a.push (f x) := by
  apply Array.ext_getElem?
  intro i
  rw [Array.getElem?_modify, Array.getElem?_push, Array.getElem?_push]
  by_cases h : i = a.size
  · subst h; simp
  · rw [if_neg (by omega), if_neg h, if_neg h]
theorem run_s2b {P : Program} {src dst el : TypeId} {d : TypeDesc} (h1 : P.underlying src = some d) (h2 : P.underlying dst = some (.slice el)) (hu : P.underlying el = some (.int .u8)) (str : ByteArray) (w : World) :
   ∃ cap cur, str.size ≤ cap ∧ cur.toList.take str.size = str.data.toList.map (fun b => Value.int .u8 b.toNat) ∧ (convert src dst (.string str)).run P w = .ok (.slice (some ⟨w.heap.size, 0, none⟩) str.size cap) (w.drew.alloc (.cells cur el (cur.size, cur.size + 1))) := by
  refine ⟨grownCap w str.size 0 el, (str.data.map fun b => Value.int .u8 b.toNat) ++ Array.replicate (grownCap w str.size 0 el - str.size) (.int .u8 0), grownCap_ge w _ _ _, ?_, ?_⟩
  · simp
  · have : (convert src dst (.string str)).run P w = (Conv.stringToBytes el str).run P w := by
      cases d <;> simp [convert, run_underlying h1, run_underlying h2, run_underlying hu]
    rw [this]
    simp only [Conv.stringToBytes, choose, Sem.run_bind, markStringish, newRow, newObj, Go.shape, freeze]
    simp [Sem.run, grownCap, Question.forced, World.drew, World.alloc, World.shape?, World.freeze, modify_push, -World.alloc_eq, -World.drew_eq]

theorem does_conv {src dst : TypeId} {x : Operand} (ho : o.op = .convert src dst x) {r : Res} (h : convT P s.st src dst (Operand.t s x) = some r) (hs : r.side) : Does P e o s r.val r.wr := by
  unfold convT at h
  split at h
  · rename_i d k h1 h2
    split at h
    · rename_i kd n hx
      simp [retI, ret] at h; subst h
      refine Does.of_value fun ι act w hR => ⟨_, ?_, .im (.v _)⟩
      have hv := (hx ▸ hR.rp x).v_inv
      simp [execOp, ho, convert, run_underlying h1, run_underlying h2, hv, Conv.intToInt]
    · cases h
  · rename_i el h1 h2
    split at h
    · rename_i kk xs hc
      split at h
      · rename_i hu8
        have hu : P.underlying el = some (.int .u8) := by
          unfold isU8 at hu8
          split at hu8
          · rename_i hu; exact hu
          · cases hu8
        injection h with h; subst h
        obtain ⟨hcs, hby⟩ := hs
        refine Does.of_value fun ι act w hR => ⟨_, ?_, .im (.v _)⟩
        obtain ⟨p, cap, us, hv, c1, c2, c2', c3, c4, c5, c6⟩ := hR.con (hR.rp x) hc hcs
        rw [flat_bytes hby] at c3 c6
        have hus : us = (xs.map byteN).map (Value.int .u8) := by
          apply List.ext_getElem?
          intro j
          simp only [List.getElem?_map, Option.map_map]
          by_cases hj : j < us.length
          · have hj' : j < xs.length := by omega
            have h6 := c6 j us[j] xs[j] (by simp [hj]) (by simp [hj'])
            have hb := hby xs[j] (by simp)
            rw [List.getElem?_eq_getElem hj, List.getElem?_eq_getElem hj']
            simp only [Option.map_some, Function.comp]
            generalize xs[j] = y at *
            cases y with
            | v x =>
              cases x with
              | int k n => cases k <;> first | (simp [isByte] at hb; done) | (rw [h6.v_inv]; rfl)
              | _ => simp [isByte] at hb
            | _ => simp [isByte] at hb
          · rw [List.getElem?_eq_none (by omega), List.getElem?_eq_none (by omega)]; rfl
        have hstr : ∀ (ys : List T) (r : ByteArray), (ys.map byteN).foldl (fun r n => r.push (UInt8.ofNat n.toNat)) r = (ys.map unbyte).foldl (fun r b => r.push b) r ∨ ¬ ∀ y ∈ ys, isByte y = true := by
          intro ys
          induction ys with
          | nil => intro r; exact .inl rfl
          | cons y ys ih =>
            intro r
            by_cases hy : ∀ z ∈ y :: ys, isByte z = true
            · left
              simp only [List.map_cons, List.foldl_cons]
              have h1 : UInt8.ofNat (byteN y).toNat = unbyte y := by
                have hb := hy y (by simp)
                cases y with
                | v x =>
                  cases x with
                  | int k n => cases k <;> first | (simp [isByte] at hb; done) | rfl
                  | _ => simp [isByte] at hb
                | _ => simp [isByte] at hb
              rw [h1]
              rcases ih (r.push (unbyte y)) with h | h
              · exact h
              · exact absurd (fun z hz => hy z (by simp [hz])) h
            · exact .inr hy
        have hfold : (xs.map byteN).foldl (fun r n => r.push (UInt8.ofNat n.toNat)) ByteArray.empty = ⟨(xs.map unbyte).toArray⟩ := by
          rcases hstr xs ByteArray.empty with h | h
          · rw [h, foldl_push]; show ByteArray.mk (#[] ++ _) = _; rw [Array.empty_append]
          · exact absurd hby h
        have hcv := run_convert_bytes_string (P := P) w src dst el p xs.length cap h1 hu h2
        simp only [execOp, ho, hv, Sem.run_bind, hcv]
        cases p with
        | none =>
          have hx0 : xs = [] := by
            apply Classical.byContradiction
            intro hn
            exact c4 (List.length_pos_iff.2 hn) rfl
          subst hx0
          simp [Conv.bytesToString]; rfl
        | some ad =>
          have hlc : (loadCells ad xs.length).run P w = .ok ((xs.map byteN).map (Value.int .u8)).toArray w := by
            rw [← hus, ← c3]
            exact run_loadCells_list w ad us fun j u hu => by obtain ⟨ad', e1, e2, _⟩ := c5 j u hu; injection e1 with e1; subst e1; exact e2
          rw [run_bytesToString w ad xs.length cap _ hlc, hfold]
          simp
      · cases h
    · cases h
  · rename_i d hne h1 h2
    split at h
    · rename_i str hx
      simp [ret] at h; subst h
      refine Does.of_value fun ι act w hR => ⟨_, ?_, .im (.v _)⟩
      have hv := (hx ▸ hR.rp x).v_inv
      simp [execOp, ho, convert, run_underlying h1, run_underlying h2, hv]
    · cases h
  · rename_i d el h1 h2
    split at h
    · rename_i str hx
      split at h
      · rename_i hu8
        have hu : P.underlying el = some (.int .u8) := by
          unfold isU8 at hu8
          split at hu8
          · rename_i hu; exact hu
          · cases hu8
        simp [ret] at h; subst h
        refine Does.of_run fun ι act w hR => ?_
        have hv := (hx ▸ hR.rp x).v_inv
        obtain ⟨cap, cur, hc, htk, hrun⟩ := run_s2b (P := P) h1 h2 hu str w
        have hR1 : Rel e s ι act w.drew := hR.heap rfl rfl rfl rfl
        obtain ⟨hR2, _⟩ := hR1.alloc (.cells cur el (cur.size, cur.size + 1))
        refine ⟨.slice (some ⟨w.heap.size, 0, none⟩) str.size cap, _, ι, ?_, hR2, ?_⟩
        · simp only [execOp, ho, hv, Sem.run_bind]
          rw [hrun]; simp
        · have hfl : flat (str.data.toList.map byteT) = str.data.toList.map byteT := flat_bytes (fun y hy => by
            obtain ⟨b, _, rfl⟩ := List.mem_map.1 hy; rfl)
          have hb : (w.drew.alloc (.cells cur el (cur.size, cur.size + 1))).heap[w.heap.size]? = some (.cells cur el (cur.size, cur.size + 1)) := heap_alloc_new w.drew _
          refine .im (.sl (some ⟨w.heap.size, 0, none⟩) str.size cap 1 _ (str.data.toList.map fun b => Value.int .u8 b.toNat) (by rw [List.length_map, Array.length_toList]; rfl) hc ?_ (by rw [hfl]; simp) (by simp) ?_ ?_)
          · intro y hy; obtain ⟨b, _, rfl⟩ := List.mem_map.1 hy; rfl
          · intro j u hu'
            refine ⟨_, rfl, hR1.av_alloc _ _ (by rw [addr_add]; rfl), ?_, ?_⟩
            · rw [addr_add, cell_row hb]
              rw [← htk, List.getElem?_take] at hu'
              split at hu'
              · simpa using hu'
              · cases hu'
            · simp only [List.getElem?_map] at hu'
              cases hj : str.data.toList[j]? with
              | none => simp [hj] at hu'
              | some b => simp [hj] at hu'; subst hu'; rfl
          · intro j u c hu' hc'
            rw [hfl] at hc'
            simp only [List.getElem?_map] at hu' hc'
            cases hj : str.data.toList[j]? with
            | none => simp [hj] at hu'
            | some b => simp [hj] at hu' hc'; subst hu' hc'; exact .v _
      · cases h
    · cases h
  · cases h

end
end Go.TL
