/- The operations over trees, and that each does what its tree says. -/
import Derived.Test.YtnejebkdlofdoaaZzRel
namespace Go.TL
set_option linter.unusedSimpArgs false
set_option linter.unusedVariables false

/-! ### What of a type an operation asks -/
/-- none: one cell; some n: an aggregate of n cells -/
def ldT (P : Program) (t : TypeId) : Option (Option Nat) :=
  match P.underlying t, P.info? t with
  | some d, some i => some (match d with | .struct _ | .array _ _ => some i.size | _ => none)
  | _, _ => none
def szT (P : Program) (t : TypeId) : Option Nat := (P.info? t).map (·.size)
def ofV : Value → T
  | .agg cs => .agg (cs.toList.map .v)
  | v => .v v
def zrT (P : Program) (t : TypeId) : Option T := ((P.info? t).bind (·.zero)).map ofV
/-- a slice's element's cells, or an array's length and its element's cells -/
def ixT (P : Program) (t : TypeId) : Option (Option Nat × Nat) :=
  match P.underlying t with
  | some (.slice e) => (szT P e).map fun k => (none, k)
  | some (.array n e) => (szT P e).map fun k => (some n, k)
  | _ => none
def fdT (P : Program) (s : TypeId) (f : Nat) : Option (Nat × Nat × Option Nat) :=
  match P.underlying s with
  | some (.struct fs) => match fs[f]? with
    | some fl => match szT P fl.type, ldT P fl.type with
      | some n, some l => some (fl.offset, n, l)
      | _, _ => none
    | none => none
  | _ => none

def partT (o : Option Nat) (j : Nat) (cs : List T) : T :=
  match o with
  | none => cs.getD j .junk
  | some n => .agg ((cs.drop j).take n)
def need (o : Option Nat) (j : Nat) : Nat := match o with | none => j + 1 | some n => j + n

def partV (o : Option Nat) (j : Nat) (us : List Value) : Value :=
  match o with
  | none => us.getD j undef
  | some n => .agg ((us.drop j).take n).toArray

section
variable {P : Program} {st : Sto} {ι : Iota} {w : World} {A : Addr → Prop}

theorem rp_part {us : List Value} {cs : List T} (hl : us.length = cs.length) (h : ∀ (j : Nat) (u : Value) (c : T), us[j]? = some u → cs[j]? = some c → Rp st ι w A u c)
    (o : Option Nat) (j : Nat) (hj : need o j ≤ cs.length) : Rp st ι w A (partV o j us) (partT o j cs) := by
  cases o with
  | none =>
    simp only [need] at hj
    simp only [partV, partT]
    have h1 : j < us.length := by omega
    have h2 : j < cs.length := by omega
    refine h j _ _ ?_ ?_
    · simp [List.getD, h1]
    · simp [List.getD, h2]
  | some n =>
    simp only [need] at hj
    simp only [partV, partT]
    refine .agg _ _ (by simp [hl]) fun i u c hu hc => ?_
    rw [List.getElem?_take] at hu hc
    split at hu <;> simp_all
    exact h _ _ _ hu hc

theorem add_add (a : Addr) (m j : Nat) : (a.add m).add j = a.add (m + j) := by
  unfold Addr.add
  split <;> split <;> split <;> simp_all <;> omega

theorem run_loadVar_T {t : TypeId} {o : Option Nat} (ho : ldT P t = some o) (a : Addr) (us : List Value) (j : Nat)
    (h : ∀ (j : Nat) (u : Value), us[j]? = some u → w.cell? (a.add j) = some u) (hj : need o j ≤ us.length) :
    (loadVar t (a.add j)).run P w = .ok (partV o j us) w := by
  unfold ldT at ho
  split at ho
  · rename_i d i hd hi
    have hcells : ∀ (i : Nat) (u : Value), (us.drop j)[i]? = some u → w.cell? ((a.add j).add i) = some u := by
      intro i u hu
      rw [List.getElem?_drop] at hu
      rw [add_add]
      exact h _ _ hu
    have agg : ∀ n, i.size = n → need (some n) j ≤ us.length → (loadCells (a.add j) i.size).run P w = .ok ((us.drop j).take n).toArray w := by
      intro n hn hl
      simp only [need] at hl
      have hlen : ((us.drop j).take n).length = i.size := by simp; omega
      rw [← hlen]
      exact run_loadCells_list w _ _ fun k u hu => by
        rw [List.getElem?_take] at hu
        split at hu
        · exact hcells k u hu
        · cases hu
    cases d <;> simp only [Option.some.injEq] at ho <;> subst ho <;>
      first
      | (have ha := agg i.size rfl hj
         simp [loadVar, isAgg, run_underlying hd, sizeOf, typeInfo, hi, ha, partV])
      | (simp only [need] at hj
         have h1 := h j (us.getD j undef) (by simp [List.getD, show j < us.length by omega])
         simp only [List.getD_eq_getElem?_getD] at h1
         simp [loadVar, isAgg, run_underlying hd, load, Sem.run, h1, partV])
  · cases ho

end

/-- what an operation needs that is no shape; what it yields; which object it leaves changed -/
structure Res where
  side : Prop
  val : T
  wr : List (Nat × Ob)

def stw (st : Sto) (wr : List (Nat × Ob)) : Sto := wr ++ st

def St.step (s : St) (dst : Option Nat) (val : T) (wr : List (Nat × Ob)) : St :=
  ⟨match dst with | some d => (d, val) :: s.fr | none => s.fr, stw s.st wr⟩

/-- THE MEANING: from every state that fits, the operation goes on in one that fits, with a value that fits. -/
def Does (P : Program) (e : Env) (o : Oper) (s : St) (val : T) (wr : List (Nat × Ob)) : Prop :=
  ∀ ι a w K Q, Rel e s ι a w → (∀ v w' ι', Rel e ⟨s.fr, stw s.st wr⟩ ι' a w' → Rp (stw s.st wr) ι' w' (Av e (stw s.st wr) ι' w') v val → K (a.put o.dst v) w') → o.wp P a w K Q

section
variable {P : Program} {e : Env} {o : Oper} {s : St} {val : T}

theorem Does.of_value (h : ∀ ι a w, Rel e s ι a w → ∃ v, (execOp a.eval o).run P w = .ok (.value v) w ∧ Rp s.st ι w (Av e s.st ι w) v val) : Does P e o s val [] := by
  intro ι a w K Q hR hK
  obtain ⟨v, h1, h2⟩ := h ι a w hR
  unfold Oper.wp
  rw [h1]
  exact hK v w ι hR h2

theorem Does.of_run {wr : List (Nat × Ob)} (h : ∀ ι a w, Rel e s ι a w → ∃ v w' ι', (execOp a.eval o).run P w = .ok (.value v) w' ∧ Rel e ⟨s.fr, stw s.st wr⟩ ι' a w' ∧ Rp (stw s.st wr) ι' w' (Av e (stw s.st wr) ι' w') v val) : Does P e o s val wr := by
  intro ι a w K Q hR hK
  obtain ⟨v, w', ι', h1, h2, h3⟩ := h ι a w hR
  unfold Oper.wp
  rw [h1]
  exact hK v w' ι' h2 h3

theorem Does.of_skip {wr : List (Nat × Ob)} (h : ∀ ι a w, Rel e s ι a w → ∃ w' ι', (execOp a.eval o).run P w = .ok .skip w' ∧ Rel e ⟨s.fr, stw s.st wr⟩ ι' a w') : Does P e o s (.v undef) wr := by
  intro ι a w K Q hR hK
  obtain ⟨w', ι', h1, h2⟩ := h ι a w hR
  unfold Oper.wp
  rw [h1]
  exact hK undef w' ι' h2 (.im (.v _))
end

/-! ### Inversions -/
section
variable {st : Sto} {ι : Iota} {w : World} {A : Addr → Prop} {v : Value}
theorem Rp.v_inv {x : Value} (h : Rp st ι w A v (.v x)) : v = x := by
  cases h with | im h => cases h; rfl
theorem Rp.im_sl {k : Nat} {xs : List T} (h : Rp st ι w A v (.sl k xs)) : Im w A v (.sl k xs) := by
  cases h with | im h => exact h
theorem Rp.agg_inv {cs : List T} (h : Rp st ι w A v (.agg cs)) : ∃ us : List Value, v = .agg us.toArray ∧ us.length = cs.length ∧ ∀ (j : Nat) (u : Value) (c : T), us[j]? = some u → cs[j]? = some c → Rp st ι w A u c := by
  cases h with
  | im h => cases h
  | agg us cs hl h => exact ⟨us, rfl, hl, h⟩
theorem Rp.tup_inv {cs : List T} (h : Rp st ι w A v (.tup cs)) : ∃ us : List Value, v = .tuple us.toArray ∧ us.length = cs.length ∧ ∀ (j : Nat) (u : Value) (c : T), us[j]? = some u → cs[j]? = some c → Rp st ι w A u c := by
  cases h with
  | im h => cases h
  | tup us cs hl h => exact ⟨us, rfl, hl, h⟩
theorem Rp.clo_inv {f : FuncId} {cs : List T} (h : Rp st ι w A v (.clo f cs)) : ∃ us : List Value, v = .func (.func f) #[] us.toArray ∧ us.length = cs.length ∧ ∀ (j : Nat) (u : Value) (c : T), us[j]? = some u → cs[j]? = some c → Rp st ι w A u c := by
  cases h with
  | im h => cases h with
    | clo f us cs hl h => exact ⟨us, rfl, hl, fun j u c hu hc => .im (h j u c hu hc)⟩
  | clo f us cs hl h => exact ⟨us, rfl, hl, h⟩
theorem Rp.asl_inv {id n : Nat} (h : Rp st ι w A v (.asl id n)) {k : Nat} {xs : List T} {fz : Bool} (hg : get st id = some (.arr k xs fz)) (hn : xs.length = n) : slv (ι id) n v := by
  cases h with
  | im h => cases h
  | asl _ _ _ hd h => exact (h k xs fz hg).2 hn
theorem Rp.vw_inv {id n lo len : Nat} (h : Rp st ι w A v (.vw id n lo len)) {k : Nat} {xs : List T} {fz : Bool} (hg : get st id = some (.arr k xs fz)) (hn : xs.length = n) : lo + len ≤ n ∧ vwv (ι id) k lo len v := by
  cases h with
  | im h => cases h
  | vw _ _ _ _ _ hd h => exact (h k xs fz hg).2 hn
theorem Rp.ptr_inv {id n i j : Nat} (h : Rp st ι w A v (.ptr id n i j)) {k : Nat} {xs : List T} {fz : Bool} (hg : get st id = some (.arr k xs fz)) (hn : xs.length = n) :
    ∃ b cap, ι id = some (b, cap) ∧ v = .pointer (some ⟨b, i * k + j, none⟩) := by
  cases h with
  | im h => cases h
  | ptr _ _ _ _ _ hd h => exact (h k xs fz hg).2 hn
theorem Rp.ip_inv {cs : List T} (h : Rp st ι w A v (.ip cs)) : ∃ (a : Addr) (us : List Value), v = .pointer (some a) ∧ us.length = cs.length ∧
    (∀ (j : Nat) (u : Value), us[j]? = some u → A (a.add j) ∧ w.cell? (a.add j) = some u ∧ u.oneCell' = true) ∧ ∀ (j : Nat) (u : Value) (c : T), us[j]? = some u → cs[j]? = some c → Im w A u c := by
  cases h with
  | im h => cases h with | ip a cs us h1 h2 h3 => exact ⟨a, us, rfl, h1, h2, h3⟩
end

/-! ### Cells of arrays -/
theorem flat_length {k : Nat} {xs : List T} (hk : ∀ x ∈ xs, x.cells.length = k) : (flat xs).length = xs.length * k := by
  induction xs with
  | nil => simp [flat]
  | cons x xs ih =>
    have h1 := hk x (by simp)
    have h2 := ih (fun y hy => hk y (by simp [hy]))
    simp only [flat, List.flatMap_cons, List.length_append, List.length_cons] at *
    rw [h1, h2, Nat.add_mul]; omega

theorem flat_get {k : Nat} {xs : List T} (hk : ∀ x ∈ xs, x.cells.length = k) {i j : Nat} (hi : i < xs.length) (hj : j < k) :
    (flat xs)[i * k + j]? = (xs.getD i .junk).cells[j]? := by
  induction xs generalizing i with
  | nil => simp at hi
  | cons x xs ih =>
    have h1 := hk x (by simp)
    simp only [flat, List.flatMap_cons]
    cases i with
    | zero =>
      simp only [Nat.zero_mul, Nat.zero_add]
      rw [List.getElem?_append_left (by omega)]
      simp
    | succ i =>
      have h2 := ih (fun y hy => hk y (by simp [hy])) (i := i) (by simpa using hi)
      rw [List.getElem?_append_right (by rw [h1, Nat.add_mul]; omega)]
      rw [h1, show (i + 1) * k + j - k = i * k + j by rw [Nat.add_mul]; omega]
      simpa [flat] using h2

theorem cell_row {w : World} {b : Nat} {cur : Array Value} {E : TypeId} {fr : Nat × Nat} (h : w.heap[b]? = some (.cells cur E fr)) (o : Nat) : w.cell? ⟨b, o, none⟩ = cur[o]? := by
  simp [World.cell?, h]

theorem addr_add (b o j : Nat) : (⟨b, o, none⟩ : Addr).add j = ⟨b, o + j, none⟩ := by
  unfold Addr.add; split <;> simp_all

/-- the cells of an element of an array, and what they are -/
theorem Rel.elem {e : Env} {s : St} {ι : Iota} {a : Act} {w : World} (h : Rel e s ι a w) {id k : Nat} {xs : List T} {fz : Bool} (hg : get s.st id = some (.arr k xs fz))
    {b cap : Nat} (hi : ι id = some (b, cap)) {i : Nat} (hix : i < xs.length) :
    ∃ us : List Value, us.length = (xs.getD i .junk).cells.length ∧ us.length = k ∧ (∀ (j : Nat) (u : Value), us[j]? = some u → w.cell? ((⟨b, i * k, none⟩ : Addr).add j) = some u) ∧
      ∀ (j : Nat) (u : Value) (c : T), us[j]? = some u → (xs.getD i .junk).cells[j]? = some c → Rp s.st ι w (Av e s.st ι w) u c := by
  obtain ⟨hk, h0⟩ := h.ob id _ hg
  rcases h0 with ⟨h1, _⟩ | ⟨b', cap', cur, E, h4, h5, h6, h7, h8, h9⟩
  · rw [h1] at hi; cases hi
  · rw [h4] at hi; injection hi with hi; injection hi with e1 e2; subst e1 e2
    have hkk : (xs.getD i .junk).cells.length = k := hk _ (by simp [List.getD, hix])
    have hle : i * k + k ≤ cap' * k := by rw [← Nat.succ_mul]; exact Nat.mul_le_mul_right k (by omega)
    have hl : ((cur.toList.drop (i * k)).take k).length = k := by simp; omega
    refine ⟨(cur.toList.drop (i * k)).take k, by rw [hkk, hl], hl, fun j u hu => ?_, fun j u c hu hc => ?_⟩
    · rw [addr_add, cell_row h5]
      rw [List.getElem?_take] at hu
      split at hu
      · rw [List.getElem?_drop] at hu; simpa using hu
      · cases hu
    · rw [List.getElem?_take] at hu
      split at hu
      · rename_i hjk
        rw [List.getElem?_drop] at hu
        exact (h9 (i * k + j) u c (by simpa using hu) (by rw [flat_get hk hix hjk]; exact hc)).2
      · cases hu

end Go.TL
