/- Indexes, slices of slices, conversions, lengths. -/
import Derived.Test.YtnejebkdlofdoaaZzOps3
namespace Go.TL
set_option linter.unusedSimpArgs false
set_option linter.unusedVariables false

theorem Im.sl_inv {w : World} {A : Addr → Prop} {v : Value} {k : Nat} {xs : List T} (h : Im w A v (.sl k xs)) :
    ∃ (p : Option Addr) (cap : Nat) (us : List Value), v = .slice p xs.length cap ∧ xs.length ≤ cap ∧ (∀ x ∈ xs, x.cells.length = k) ∧ us.length = (flat xs).length ∧
      (0 < xs.length → p ≠ none) ∧ (∀ (j : Nat) (u : Value), us[j]? = some u → ∃ a, p = some a ∧ A (a.add j) ∧ w.cell? (a.add j) = some u ∧ u.oneCell' = true) ∧
      (∀ (j : Nat) (u : Value) (c : T), us[j]? = some u → (flat xs)[j]? = some c → Im w A u c) := by
  cases h with
  | sl p len cap k xs us h1 h2 h3 h4 h5 h6 h7 => subst h1; exact ⟨p, cap, us, rfl, h2, h3, h4, h5, h6, h7⟩

theorem Im.sl_elem {w : World} {A : Addr → Prop} {a : Addr} {k : Nat} {xs : List T} {us : List Value} (hk : ∀ x ∈ xs, x.cells.length = k) (hl : us.length = (flat xs).length)
    (h1 : ∀ (j : Nat) (u : Value), us[j]? = some u → A (a.add j) ∧ w.cell? (a.add j) = some u ∧ u.oneCell' = true) (h2 : ∀ (j : Nat) (u : Value) (c : T), us[j]? = some u → (flat xs)[j]? = some c → Im w A u c)
    {i : Nat} (hi : i < xs.length) : Im w A (.pointer (some (a.add (i * k)))) (.ip (xs.getD i .junk).cells) := by
  have hkk : (xs.getD i .junk).cells.length = k := hk _ (by simp [List.getD, hi])
  have hfl := flat_length hk
  have hlex : i * k + k ≤ xs.length * k := by rw [← Nat.succ_mul]; exact Nat.mul_le_mul_right k (by omega)
  refine .ip _ _ ((us.drop (i * k)).take k) (by rw [hkk]; simp; omega) (fun j u hu => ?_) (fun j u c hu hc => ?_)
  · rw [List.getElem?_take] at hu
    split at hu
    · rw [List.getElem?_drop] at hu; rw [add_add]; exact h1 _ u hu
    · cases hu
  · rw [List.getElem?_take] at hu
    split at hu
    · rename_i hj
      rw [List.getElem?_drop] at hu
      refine h2 _ u c hu ?_
      rw [flat_get hk hi hj]; exact hc
    · cases hu

theorem ixT_slice {P : Program} {t : TypeId} {k : Nat} (h : ixT P t = some (none, k)) : ∃ el i, P.underlying t = some (.slice el) ∧ P.info? el = some i ∧ i.size = k := by
  unfold ixT at h
  split at h
  · rename_i el hu
    unfold szT at h
    cases hi : P.info? el with
    | none => simp [hi] at h
    | some i => simp [hi] at h; exact ⟨el, i, hu, hi, h⟩
  · rename_i n el hu
    unfold szT at h
    cases hi : P.info? el with
    | none => simp [hi] at h
    | some i => simp [hi] at h
  · cases h
theorem ixT_array {P : Program} {t : TypeId} {k n : Nat} (h : ixT P t = some (some n, k)) : ∃ el i, P.underlying t = some (.array n el) ∧ P.info? el = some i ∧ i.size = k := by
  unfold ixT at h
  split at h
  · rename_i el hu
    unfold szT at h
    cases hi : P.info? el with
    | none => simp [hi] at h
    | some i => simp [hi] at h
  · rename_i n' el hu
    unfold szT at h
    cases hi : P.info? el with
    | none => simp [hi] at h
    | some i => simp [hi] at h; obtain ⟨rfl, rfl⟩ := h; exact ⟨el, i, hu, hi, rfl⟩
  · cases h

def indexAddrT (P : Program) (st : Sto) (ty : TypeId) (x i : T) : Option Res :=
  match ixT P ty, i, x with
  | some (none, k), .v (.int _ n), .sl k' xs => if k' = k then some ⟨0 ≤ n ∧ n < xs.length, .ip (xs.getD n.toNat .junk).cells, []⟩ else none
  | some (none, k), .v (.int _ n), .asl id m => match get st id with
    | some (.arr k' xs _) => if k' = k then some ⟨xs.length = m ∧ 0 ≤ n ∧ n < m, .ptr id m n.toNat 0, []⟩ else none
    | _ => none
  | some (none, k), .v (.int _ n), .vw id m lo len => match get st id with
    | some (.arr k' xs _) => if k' = k then some ⟨xs.length = m ∧ 0 ≤ n ∧ n < len, .ptr id m (lo + n.toNat) 0, []⟩ else none
    | _ => none
  | some (some len, k), .v (.int _ n), .ptr id m i j => some ⟨0 ≤ n ∧ n < len ∧ validId st id m, .ptr id m i (j + n.toNat * k), []⟩
  | some (some len, k), .v (.int _ n), .ip cs => some ⟨0 ≤ n ∧ n < len, .ip (cs.drop (n.toNat * k)), []⟩
  | _, _, _ => none

section
variable {P : Program} {e : Env} {o : Oper} {s : St}

theorem does_indexAddr {ty : TypeId} {x i : Operand} (ho : o.op = .indexAddr ty x i) {r : Res} (h : indexAddrT P s.st ty (Operand.t s x) (Operand.t s i) = some r) (hs : r.side) : Does P e o s r.val r.wr := by
  unfold indexAddrT at h
  split at h
  · rename_i k kd n k' xs hty hi hx
    split at h
    · rename_i hkk
      subst hkk
      injection h with h; subst h
      obtain ⟨h1, h2⟩ := hs
      obtain ⟨el, inf, g1, g2, g3⟩ := ixT_slice hty
      refine Does.of_value fun ι act w hR => ?_
      have hi0 := (hi ▸ hR.rp i).v_inv
      obtain ⟨p, cap, us, hv, c1, c2, c3, c4, c5, c6⟩ := (hx ▸ hR.rp x).im_sl.sl_inv
      obtain ⟨ad, rfl⟩ : ∃ ad, p = some ad := by
        cases p with
        | none => exact absurd rfl (c4 (by omega))
        | some ad => exact ⟨ad, rfl⟩
      have hn : n.toNat < xs.length := by omega
      refine ⟨_, ?_, .im (Im.sl_elem (a := ad) c2 c3 (fun j u hu => by obtain ⟨a', e', h'⟩ := c5 j u hu; injection e' with e'; subst e'; exact h') c6 hn)⟩
      simp [execOp, ho, hv, hi0, Instr.indexAt, asIntOf, run_underlying g1, sizeOf, typeInfo, g2, g3, h1, h2]
    · cases h
  · rename_i k kd n id m hty hi hx
    split at h
    · rename_i k' xs fz hg
      split at h
      · rename_i hkk
        subst hkk
        injection h with h; subst h
        obtain ⟨h0, h1, h2⟩ := hs
        obtain ⟨el, inf, g1, g2, g3⟩ := ixT_slice hty
        refine Does.of_value fun ι act w hR => ?_
        have hi0 := (hi ▸ hR.rp i).v_inv
        have hv := (hx ▸ hR.rp x).asl_inv hg h0
        have hob := (hR.ob id _ hg).2
        rcases hob with ⟨_, hx0⟩ | ⟨b, cap, cur, E, g4, _⟩
        · subst hx0; simp at h0; omega
        refine ⟨.pointer (some ⟨b, n.toNat * k', none⟩), ?_, ?_⟩
        · rw [g4] at hv
          have hv : act.eval x = .slice (some ⟨b, 0, none⟩) m cap := hv
          simp [execOp, ho, hv, hi0, Instr.indexAt, asIntOf, run_underlying g1, sizeOf, typeInfo, g2, g3, h1, h2, addr_add]
        · refine .ptr _ _ _ _ _ (by rw [hg]; simp) fun k2 xs2 fz2 hg2 => ?_
          rw [hg] at hg2; injection hg2 with hg2; injection hg2 with e1 e2 e3
          subst e1 e2 e3
          exact ⟨by omega, fun _ => ⟨b, cap, g4, by simp⟩⟩
      · cases h
    · cases h
  · rename_i k kd n id m lo len hty hi hx
    split at h
    · rename_i k' xs fz hg
      split at h
      · rename_i hkk
        subst hkk
        injection h with h; subst h
        obtain ⟨h0, h1, h2⟩ := hs
        obtain ⟨el, inf, g1, g2, g3⟩ := ixT_slice hty
        refine Does.of_value fun ι act w hR => ?_
        have hi0 := (hi ▸ hR.rp i).v_inv
        obtain ⟨hl0, hv⟩ := (hx ▸ hR.rp x).vw_inv hg h0
        have hob := (hR.ob id _ hg).2
        rcases hob with ⟨_, hx0⟩ | ⟨b, cap, cur, E, g4, g5, g6, g7, _⟩
        · subst hx0; simp at h0; omega
        rw [g4] at hv
        obtain ⟨p, hv, hp⟩ := hv
        have hp := hp (by omega)
        subst hp
        refine ⟨.pointer (some ⟨b, lo * k' + n.toNat * k', none⟩), ?_, ?_⟩
        · simp [execOp, ho, hv, hi0, Instr.indexAt, asIntOf, run_underlying g1, sizeOf, typeInfo, g2, g3, h1, h2, addr_add]
        · refine .ptr _ _ _ _ _ (by rw [hg]; simp) fun k2 xs2 fz2 hg2 => ?_
          rw [hg] at hg2; injection hg2 with hg2; injection hg2 with e1 e2 e3
          subst e1 e2 e3
          exact ⟨by omega, fun _ => ⟨b, cap, g4, by simp [Nat.add_mul]⟩⟩
      · cases h
    · cases h
  · rename_i len k kd n id m i' j hty hi hx
    injection h with h; subst h
    obtain ⟨h1, h2, h3⟩ := hs
    obtain ⟨el, inf, g1, g2, g3⟩ := ixT_array hty
    obtain ⟨k0, xs, fz, hg, hm⟩ := validId_iff.1 h3
    refine Does.of_value fun ι act w hR => ?_
    have hi0 := (hi ▸ hR.rp i).v_inv
    obtain ⟨b, cap, hb, hv⟩ := (hx ▸ hR.rp x).ptr_inv hg hm
    refine ⟨.pointer (some ⟨b, i' * k0 + (j + n.toNat * k), none⟩), ?_, ?_⟩
    · simp [execOp, ho, hv, hi0, Instr.indexAt, Instr.sureAddr, asIntOf, run_underlying g1, sizeOf, typeInfo, g2, g3, h1, h2, addr_add, Nat.add_assoc]
    · refine .ptr _ _ _ _ _ (by rw [hg]; simp) fun k2 xs2 fz2 hg2 => ?_
      rw [hg] at hg2; injection hg2 with hg2; injection hg2 with e1 e2 e3
      subst e1 e2 e3
      exact ⟨by omega, fun _ => ⟨b, cap, hb, rfl⟩⟩
  · rename_i len k kd n cs hty hi hx
    injection h with h; subst h
    obtain ⟨h1, h2⟩ := hs
    obtain ⟨el, inf, g1, g2, g3⟩ := ixT_array hty
    refine Does.of_value fun ι act w hR => ?_
    have hi0 := (hi ▸ hR.rp i).v_inv
    obtain ⟨ad, us, hv, hl, c1, c2⟩ := (hx ▸ hR.rp x).ip_inv
    refine ⟨_, ?_, .im (Im.ip_drop hl c1 c2 (n.toNat * k))⟩
    simp [execOp, ho, hv, hi0, Instr.indexAt, Instr.sureAddr, asIntOf, run_underlying g1, sizeOf, typeInfo, g2, g3, h1, h2]
  · cases h

/-! ### a byte of a string -/
def indexT (P : Program) (ty : TypeId) (x i : T) : Option Res :=
  match P.underlying ty, x, i with
  | some .string, .v (.string s), .v (.int _ n) => some ⟨0 ≤ n ∧ n < s.size, .v (.int .u8 (s.data.toList.getD n.toNat 0).toNat), []⟩
  | _, _, _ => none

theorem does_index {ty : TypeId} {x i : Operand} (ho : o.op = .index ty x i) {r : Res} (h : indexT P ty (Operand.t s x) (Operand.t s i) = some r) (hs : r.side) : Does P e o s r.val r.wr := by
  unfold indexT at h
  split at h
  · rename_i str kd n hu hx hi
    injection h with h; subst h
    obtain ⟨h1, h2⟩ := hs
    refine Does.of_value fun ι act w hR => ?_
    have hi0 := (hi ▸ hR.rp i).v_inv
    have hx0 := (hx ▸ hR.rp x).v_inv
    have hn : n.toNat < str.size := by omega
    refine ⟨_, ?_, .im (.v _)⟩
    have hb : str[n.toNat]? = some (str.data.toList.getD n.toNat 0) := by
      have hn' : n.toNat < str.data.size := hn
      have e1 : str[n.toNat]? = some (str[n.toNat]'hn) := by simp [getElem?_def, hn]
      rw [e1]
      congr 1
      show str.data[n.toNat] = _
      simp only [List.getD, Array.getElem?_toList]
      rw [Array.getElem?_eq_getElem hn']
      rfl
    simp [execOp, ho, hx0, hi0, Instr.index, asIntOf, run_underlying hu, h1, hb]
  · cases h

/-! ### x[lo:hi] -/
def bndT : Option T → Option (Option (Int))
  | none => some none
  | some (.v (.int _ n)) => some (some n)
  | _ => none

def imT0 : T → Bool
  | .v _ | .sl .. | .ip .. | .junk | .ub .. => true
  | _ => false
def imT0L : List T → Bool
  | [] => true
  | x :: r => imT0 x && imT0L r
/-- what needs no own object -/
def imT : T → Bool
  | .clo _ cs => imT0L cs
  | x => imT0 x
theorem imT0L_mem {l : List T} (h : imT0L l = true) : ∀ x ∈ l, imT0 x = true := by
  induction l with
  | nil => simp
  | cons y r ih =>
    simp only [imT0L, Bool.and_eq_true] at h
    intro x hx
    rcases List.mem_cons.1 hx with rfl | hx
    · exact h.1
    · exact ih h.2 x hx
theorem Rp.imv0 {st : Sto} {ι : Iota} {w : World} {A : Addr → Prop} {v : Value} {c : T} (h : Rp st ι w A v c) (hi : imT0 c = true) : Im w A v c := by
  cases h with
  | im h => exact h
  | _ => simp [imT0] at hi
theorem Rp.imv {st : Sto} {ι : Iota} {w : World} {A : Addr → Prop} {v : Value} {c : T} (h : Rp st ι w A v c) (hi : imT c = true) : Im w A v c := by
  cases h with
  | im h => exact h
  | clo f us cs hl h => exact .clo f us cs hl fun j u c hu hc => (h j u c hu hc).imv0 (imT0L_mem hi c (List.mem_of_getElem? hc))
  | _ => simp [imT, imT0] at hi
def allIm (xs : List T) : Prop := ∀ x ∈ xs, ∀ c ∈ x.cells, imT c = true

def lowT : Option Int → Int | none => 0 | some n => n
def highT (len : Nat) : Option Int → Int | none => len | some n => n

def cutT {α : Type} (l h : Int) (xs : List α) : List α := (xs.take h.toNat).drop l.toNat

def sliceT (P : Program) (st : Sto) (ty : TypeId) (x : T) (lo hi : Option T) : Option Res :=
  match bndT lo, bndT hi, x with
  | some l, some h, .v (.string s) => match P.underlying ty with
    | some .string => some ⟨0 ≤ lowT l ∧ lowT l ≤ highT s.size h ∧ highT s.size h ≤ s.size, .v (.string (s.extract (lowT l).toNat (highT s.size h).toNat)), []⟩
    | _ => none
  | some l, some h, .sl k xs => match ixT P ty with
    | some (none, k') => if k = k' then some ⟨0 ≤ lowT l ∧ lowT l ≤ highT xs.length h ∧ highT xs.length h ≤ xs.length, .sl k (cutT (lowT l) (highT xs.length h) xs), []⟩ else none
    | _ => none
  | some l, some h, .asl id m => match ixT P ty, get st id with
    | some (none, k'), some (.arr k xs fz) => if k = k' then some ⟨xs.length = m ∧ allIm xs ∧ 0 ≤ lowT l ∧ lowT l ≤ highT xs.length h ∧ highT xs.length h ≤ xs.length, .sl k (cutT (lowT l) (highT xs.length h) xs), [(id, .arr k xs true)]⟩ else none
    | _, _ => none
  | some l, some h, .v (.slice none 0 0) => match ixT P ty with
    | some (none, _) => some ⟨lowT l = 0 ∧ highT 0 h = 0, .v (.slice none 0 0), []⟩
    | _ => none
  | some l, some h, .vw id m lo len => match ixT P ty, get st id with
    | some (none, k'), some (.arr k xs fz) => if k = k' then some ⟨xs.length = m ∧ 0 ≤ lowT l ∧ lowT l ≤ highT len h ∧ lo + highT len h ≤ m, .vw id m (lo + (lowT l).toNat) ((highT len h).toNat - (lowT l).toNat), []⟩ else none
    | _, _ => none
  | _, _, _ => none

theorem flat_take {k : Nat} {xs : List T} (hk : ∀ x ∈ xs, x.cells.length = k) (n : Nat) : flat (xs.take n) = (flat xs).take (n * k) := by
  induction xs generalizing n with
  | nil => simp [flat]
  | cons x xs ih =>
    cases n with
    | zero => simp [flat]
    | succ n =>
      have h1 := hk x (by simp)
      have := ih (fun y hy => hk y (by simp [hy])) n
      simp only [flat, List.take_succ_cons, List.flatMap_cons] at this ⊢
      rw [this, show (n + 1) * k = x.cells.length + n * k by rw [Nat.add_mul, h1]; omega, List.take_length_add_append]
theorem flat_drop {k : Nat} {xs : List T} (hk : ∀ x ∈ xs, x.cells.length = k) (n : Nat) : flat (xs.drop n) = (flat xs).drop (n * k) := by
  induction xs generalizing n with
  | nil => simp [flat]
  | cons x xs ih =>
    cases n with
    | zero => simp [flat]
    | succ n =>
      have h1 := hk x (by simp)
      have := ih (fun y hy => hk y (by simp [hy])) n
      simp only [flat, List.drop_succ_cons, List.flatMap_cons] at this ⊢
      rw [this, show (n + 1) * k = x.cells.length + n * k by rw [Nat.add_mul, h1]; omega, List.drop_length_add_append]

theorem Im.sl_cut {w : World} {A : Addr → Prop} {p : Option Addr} {cap k : Nat} {xs : List T} {us : List Value} (c1 : xs.length ≤ cap) (hk : ∀ x ∈ xs, x.cells.length = k) (hl : us.length = (flat xs).length)
    (hp : 0 < xs.length → p ≠ none) (h1 : ∀ (j : Nat) (u : Value), us[j]? = some u → ∃ a, p = some a ∧ A (a.add j) ∧ w.cell? (a.add j) = some u ∧ u.oneCell' = true) (h2 : ∀ (j : Nat) (u : Value) (c : T), us[j]? = some u → (flat xs)[j]? = some c → Im w A u c)
    {l h : Nat} (hlh : l ≤ h) (hh : h ≤ xs.length) : Im w A (.slice (if cap = l then p else p.map (·.add (l * k))) (h - l) (cap - l)) (.sl k ((xs.take h).drop l)) := by
  have hk' : ∀ x ∈ (xs.take h).drop l, x.cells.length = k := fun x hx => hk x (List.mem_of_mem_take (List.mem_of_mem_drop hx))
  have hlen : ((xs.take h).drop l).length = h - l := by simp; omega
  have hfl : flat ((xs.take h).drop l) = ((flat xs).take (h * k)).drop (l * k) := by
    rw [flat_drop (fun x hx => hk x (List.mem_of_mem_take hx)), flat_take hk]
  refine .sl _ _ _ k _ ((us.take (h * k)).drop (l * k)) hlen (by omega) hk' (by rw [hfl]; simp [hl]) (fun hpos => ?_) (fun j u hu => ?_) (fun j u c hu hc => ?_)
  · have := hp (by omega)
    split <;> simp_all
  · rw [List.getElem?_drop, List.getElem?_take] at hu
    split at hu
    · rename_i hj
      obtain ⟨a, e1, e2, e3⟩ := h1 _ u hu
      have hlk : l < h := by
        apply Classical.byContradiction
        intro hn
        have : h = l := by omega
        subst this
        omega
      refine ⟨a.add (l * k), ?_, ?_, ?_⟩
      · rw [if_neg (by omega), e1]; rfl
      · rw [add_add]; exact e2
      · rw [add_add]; exact e3
    · cases hu
  · rw [hfl, List.getElem?_drop, List.getElem?_take] at hc
    rw [List.getElem?_drop, List.getElem?_take] at hu
    split at hu
    · rename_i hj
      rw [if_pos hj] at hc
      exact h2 _ u c hu hc
    · cases hu

theorem run_bound {P : Program} (w : World) (k : IntKind) (n : Int) (y : Nat) (c : BoundsCode) (h0 : 0 ≤ n) (h1 : n ≤ y) : (Instr.sliceBound (.int k n) y c).run P w = .ok n.toNat w := by
  simp [Instr.sliceBound, asIntOf, h0, h1]

def operB : Option Operand → St → Option T := fun o s => o.map (Operand.t s)

theorem run_sliceBounds {P : Program} {ι : Iota} {act : Act} {w : World} (hR : Rel e s ι act w) {lo hi : Option Operand} {l h : Option Int} (hl : bndT (lo.map (Operand.t s)) = some l) (hh : bndT (hi.map (Operand.t s)) = some h)
    (isS : Bool) (len cap : Nat) (hc : len ≤ cap) (h1 : 0 ≤ lowT l) (h2 : lowT l ≤ highT len h) (h3 : highT len h ≤ cap) :
    (Instr.sliceBounds isS len cap (lo.map act.eval) (hi.map act.eval) none).run P w = .ok ((lowT l).toNat, (highT len h).toNat, cap) w := by
  have hlo : ∀ x n, lo = some x → l = some n → ∃ k, act.eval x = .int k n := by
    rintro x n rfl rfl
    simp only [Option.map_some] at hl
    generalize hx : Operand.t s x = tx at hl
    unfold bndT at hl
    split at hl <;> simp at hl
    rename_i k m hm
    simp at hm
    subst hm hl
    exact ⟨_, (hx ▸ hR.rp x).v_inv⟩
  have hhi : ∀ x n, hi = some x → h = some n → ∃ k, act.eval x = .int k n := by
    rintro x n rfl rfl
    simp only [Option.map_some] at hh
    generalize hx : Operand.t s x = tx at hh
    unfold bndT at hh
    split at hh <;> simp at hh
    rename_i k m hm
    simp at hm
    subst hm hh
    exact ⟨_, (hx ▸ hR.rp x).v_inv⟩
  have hln : lo = none → l = none := by rintro rfl; simp [bndT] at hl; exact hl.symm
  have hhn : hi = none → h = none := by rintro rfl; simp [bndT] at hh; exact hh.symm
  have hls : ∀ x, lo = some x → ∃ n, l = some n := by
    rintro x rfl
    cases l with
    | none =>
      simp only [Option.map_some] at hl
      unfold bndT at hl
      split at hl <;> simp at hl
      rename_i hm; simp at hm
    | some n => exact ⟨n, rfl⟩
  have hhs : ∀ x, hi = some x → ∃ n, h = some n := by
    rintro x rfl
    cases h with
    | none =>
      simp only [Option.map_some] at hh
      unfold bndT at hh
      split at hh <;> simp at hh
      rename_i hm; simp at hm
    | some n => exact ⟨n, rfl⟩
  cases lo with
  | none =>
    have := hln rfl
    subst this
    cases hi with
    | none =>
      have := hhn rfl
      subst this
      simp [Instr.sliceBounds, lowT, highT]
    | some y =>
      obtain ⟨n, rfl⟩ := hhs y rfl
      obtain ⟨k, hy⟩ := hhi y n rfl rfl
      simp only [lowT, highT] at h1 h2 h3 ⊢
      have hb := run_bound (P := P) w k n cap (if isS then .sliceAcap else .sliceAlen) h2 (by omega)
      simp [Instr.sliceBounds, hy, hb]
  | some x =>
    obtain ⟨m, rfl⟩ := hls x rfl
    obtain ⟨k, hx⟩ := hlo x m rfl rfl
    cases hi with
    | none =>
      have := hhn rfl
      subst this
      simp only [lowT, highT] at h1 h2 h3 ⊢
      have hb := run_bound (P := P) w k m len .sliceB h1 (by omega)
      simp [Instr.sliceBounds, hx, hb]
    | some y =>
      obtain ⟨n, rfl⟩ := hhs y rfl
      obtain ⟨k', hy⟩ := hhi y n rfl rfl
      simp only [lowT, highT] at h1 h2 h3 ⊢
      have hb := run_bound (P := P) w k' n cap (if isS then .sliceAcap else .sliceAlen) (by omega) (by omega)
      have hb2 := run_bound (P := P) w k m n.toNat .sliceB h1 (by omega)
      simp [Instr.sliceBounds, hy, hb, hx, hb2]

theorem does_slice {ty : TypeId} {x : Operand} {lo hi : Option Operand} (ho : o.op = .slice ty x lo hi none) {r : Res} (h : sliceT P s.st ty (Operand.t s x) (lo.map (Operand.t s)) (hi.map (Operand.t s)) = some r) (hs : r.side) : Does P e o s r.val r.wr := by
  unfold sliceT at h
  split at h
  · rename_i l hh str hlo hhi hx
    split at h
    · rename_i hu
      injection h with h; subst h
      obtain ⟨h1, h2, h3⟩ := hs
      refine Does.of_value fun ι act w hR => ?_
      have hx0 := (hx ▸ hR.rp x).v_inv
      have hb := run_sliceBounds (P := P) hR hlo hhi false str.size str.size (Nat.le_refl _) h1 h2 h3
      refine ⟨_, ?_, .im (.v _)⟩
      simp [execOp, ho, hx0, Instr.sliceAt, run_underlying hu, Instr.slice, hb]
    · cases h
  · rename_i l hh k xs hlo hhi hx
    split at h
    · rename_i k' hty
      split at h
      · rename_i hkk
        subst hkk
        injection h with h; subst h
        obtain ⟨h1, h2, h3⟩ := hs
        obtain ⟨el, inf, g1, g2, g3⟩ := ixT_slice hty
        refine Does.of_value fun ι act w hR => ?_
        obtain ⟨p, cap, us, hv, c1, c2, c3, c4, c5, c6⟩ := (hx ▸ hR.rp x).im_sl.sl_inv
        have hb := run_sliceBounds (P := P) hR hlo hhi true xs.length cap c1 h1 h2 (by omega)
        refine ⟨_, ?_, .im (Im.sl_cut (h := (highT xs.length hh).toNat) (l := (lowT l).toNat) c1 c2 c3 c4 c5 c6 (by omega) (by omega))⟩
        simp [execOp, ho, hv, Instr.sliceAt, run_underlying g1, Instr.slice, hb, sizeOf, typeInfo, g2, g3]
      · cases h
    · cases h
  · rename_i l hh id m hlo hhi hx
    split at h
    · rename_i k' k xs fz hty hg
      split at h
      · rename_i hkk
        subst hkk
        injection h with h; subst h
        obtain ⟨h0, him, h1, h2, h3⟩ := hs
        obtain ⟨el, inf, g1, g2, g3⟩ := ixT_slice hty
        refine Does.of_run fun ι act w hR => ?_
        have hv := (hx ▸ hR.rp x).asl_inv hg h0
        obtain ⟨hk, hob⟩ := hR.ob id _ hg
        obtain ⟨f1, f2⟩ := hR.freeze id k xs fz hg
        have hob' := (f1.ob id _ (get_cons_self _ _ _)).2
        have himc : ∀ (j : Nat) (c : T), (flat xs)[j]? = some c → imT c = true := fun j c hc => by
          have := List.mem_of_getElem? hc
          simp only [flat, List.mem_flatMap] at this
          obtain ⟨y, hy, hcy⟩ := this
          exact him y hy c hcy
        rcases hob' with ⟨g4, rfl⟩ | ⟨b, cap, cur, E, g4, g5, g6, g7, g8, g9⟩
        · simp only [List.length_nil] at h0 h1 h2 h3
          subst h0
          rw [g4] at hv
          obtain ⟨p, hv⟩ := hv
          have hb := run_sliceBounds (P := P) hR hlo hhi true 0 0 (Nat.le_refl _) h1 h2 h3
          refine ⟨_, w, ι, ?_, f1, .im (.sl (p) 0 0 k _ [] (by simp [cutT]) (Nat.le_refl _) (by simp [cutT]) (by simp [cutT, flat]) (by simp) (by simp) (by simp))⟩
          have e1 : (lowT l).toNat = 0 := by omega
          have e2 : (highT 0 hh).toNat = 0 := by omega
          simp [execOp, ho, hv, Instr.sliceAt, run_underlying g1, Instr.slice, hb, sizeOf, typeInfo, g2, g3, e1, e2]
        · have hb := run_sliceBounds (P := P) hR hlo hhi true xs.length cap g7 h1 h2 (by omega)
          have hfl := flat_length hk
          have hle : xs.length * k ≤ cap * k := Nat.mul_le_mul_right k g7
          have hv' : act.eval x = .slice (some ⟨b, 0, none⟩) xs.length cap := by rw [g4] at hv; rw [h0]; exact hv
          refine ⟨_, w, ι, ?_, f1, .im (Im.sl_cut (p := some ⟨b, 0, none⟩) (us := cur.toList.take (xs.length * k)) (h := (highT xs.length hh).toNat) (l := (lowT l).toNat) g7 hk (by rw [hfl]; simp; omega) (by simp) ?_ ?_ (by omega) (by omega))⟩
          · simp [execOp, ho, hv', Instr.sliceAt, run_underlying g1, Instr.slice, hb, sizeOf, typeInfo, g2, g3]
          · intro j u hu
            rw [List.getElem?_take] at hu
            split at hu
            · rename_i hj
              refine ⟨_, rfl, ?_, ?_, ?_⟩
              · rw [addr_add]
                refine .inr ⟨(hR.own id k xs fz b cap hg g4).symm, lt_of_heap g5, fun id' k2 xs2 fz2 cap2 hg2 hi2 => ?_⟩
                have := f1.inj id' id _ _ _ _ _ _ b cap2 cap hg2 (get_cons_self _ _ _) hi2 g4
                subst this
                change get ((_, _) :: _) _ = _ at hg2
                rw [get_cons_self] at hg2
                injection hg2 with hg2; injection hg2 with q1 q2 q3
                subst q1 q2 q3
                exact ⟨rfl, by simp; omega⟩
              · rw [addr_add, cell_row g5]; simpa using hu
              · obtain ⟨c, hc⟩ : ∃ c, (flat xs)[j]? = some c := ⟨(flat xs)[j]'(by rw [hfl]; exact hj), by simp [hfl, hj]⟩
                exact (g9 j u c (by simpa using hu) hc).1
            · cases hu
          · intro j u c hu hc
            rw [List.getElem?_take] at hu
            split at hu
            · have := g9 j u c (by simpa using hu) hc
              have hic := himc j c hc
              exact this.2.imv hic
            · cases hu
      · cases h
    · cases h
  · rename_i l hh hlo hhi hx
    split at h
    · rename_i k' hty
      injection h with h; subst h
      obtain ⟨h1, h2⟩ := hs
      obtain ⟨el, inf, g1, g2, g3⟩ := ixT_slice hty
      refine Does.of_value fun ι act w hR => ?_
      have hx0 := (hx ▸ hR.rp x).v_inv
      have hb := run_sliceBounds (P := P) hR hlo hhi true 0 0 (Nat.le_refl _) (by omega) (by omega) (by omega)
      rw [h1, h2] at hb
      refine ⟨.slice none 0 0, ?_, .im (.v _)⟩
      simp [execOp, ho, hx0, Instr.sliceAt, run_underlying g1, Instr.slice, hb, sizeOf, typeInfo, g2, g3]
    · cases h
  · rename_i l hh id m lo0 len hlo hhi hx
    split at h
    · rename_i k' k xs fz hty hg
      split at h
      · rename_i hkk
        subst hkk
        injection h with h; subst h
        obtain ⟨h0, h1, h2, h3⟩ := hs
        obtain ⟨el, inf, g1, g2, g3⟩ := ixT_slice hty
        refine Does.of_value fun ι act w hR => ?_
        obtain ⟨hl0, hv⟩ := (hx ▸ hR.rp x).vw_inv hg h0
        have hob := (hR.ob id _ hg).2
        rcases hob with ⟨g4, hx0⟩ | ⟨b, cap, cur, E, g4, g5, g6, g7, _⟩
        · subst hx0
          simp only [List.length_nil] at h0
          subst h0
          rw [g4] at hv
          obtain ⟨p, hv⟩ := hv
          have hlen : len = 0 := by omega
          subst hlen
          have hb := run_sliceBounds (P := P) hR hlo hhi true 0 0 (Nat.le_refl _) h1 h2 (by omega)
          have e1 : (lowT l).toNat = 0 := by omega
          have e2 : (highT 0 hh).toNat = 0 := by omega
          refine ⟨.slice p 0 0, ?_, .vw _ _ _ _ _ (by rw [hg]; simp) fun k2 xs2 fz2 hg2 => ?_⟩
          · simp [execOp, ho, hv, Instr.sliceAt, run_underlying g1, Instr.slice, hb, sizeOf, typeInfo, g2, g3, e1, e2]
          · exact ⟨Nat.zero_le _, fun _ => ⟨by omega, by rw [g4]; exact ⟨p, rfl⟩⟩⟩
        · rw [g4] at hv
          obtain ⟨p, hv, hp⟩ := hv
          have hb := run_sliceBounds (P := P) hR hlo hhi true len (cap - lo0) (by omega) h1 h2 (by omega)
          refine ⟨.slice (if cap - lo0 = (lowT l).toNat then p else p.map (·.add ((lowT l).toNat * k))) ((highT len hh).toNat - (lowT l).toNat) (cap - lo0 - (lowT l).toNat), ?_, .vw _ _ _ _ _ (by rw [hg]; simp) fun k2 xs2 fz2 hg2 => ?_⟩
          · simp [execOp, ho, hv, Instr.sliceAt, run_underlying g1, Instr.slice, hb, sizeOf, typeInfo, g2, g3]
          · rw [hg] at hg2; injection hg2 with hg2; injection hg2 with e1 e2 e3
            subst e1 e2 e3
            refine ⟨by omega, fun _ => ⟨by omega, ?_⟩⟩
            rw [g4]
            refine ⟨_, by rw [Nat.sub_sub], fun hlt => ?_⟩
            rw [if_neg (by omega), hp (by omega)]
            simp [addr_add, Nat.add_mul]
      · cases h
    · cases h
  · cases h

end
end Go.TL
