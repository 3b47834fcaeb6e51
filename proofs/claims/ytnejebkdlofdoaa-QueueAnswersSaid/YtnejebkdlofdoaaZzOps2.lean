/- Reading and writing objects; new objects. -/
import Derived.Test.YtnejebkdlofdoaaZzOps
namespace Go.TL
set_option linter.unusedSimpArgs false
set_option linter.unusedVariables false
section
variable {P : Program} {e : Env} {o : Oper} {s : St}

/-! ### load -/
def loadT (P : Program) (s : St) (t : TypeId) (x : T) : Option Res :=
  match ldT P t, x with
  | some l, .ptr id m i j => match get s.st id with
    | some (.arr k xs _) => some ⟨xs.length = m ∧ i < xs.length ∧ need l j ≤ k, partT l j (xs.getD i .junk).cells, []⟩
    | _ => none
  | some l, .ip cs => some ⟨need l 0 ≤ cs.length, partT l 0 cs, []⟩
  | _, _ => none

theorem does_load {t : TypeId} {x : Operand} (ho : o.op = .load t x) {r : Res} (h : loadT P s t (Operand.t s x) = some r) (hs : r.side) : Does P e o s r.val r.wr := by
  have key : r.wr = [] := by
    unfold loadT at h
    split at h
    · split at h
      · injection h with h; subst h; rfl
      · cases h
    · injection h with h; subst h; rfl
    · cases h
  rw [key]
  refine Does.of_value fun ι a w hR => ?_
  have hx := hR.rp x
  unfold loadT at h
  split at h
  · rename_i l id m i j hl hxt
    rw [hxt] at hx
    split at h
    · rename_i k xs fz hg
      injection h with h; subst h
      obtain ⟨h1, h2, h3⟩ := hs
      obtain ⟨b, cap, hi, hv⟩ := hx.ptr_inv hg h1
      obtain ⟨us, hu1, hu2, hu3, hu4⟩ := hR.elem hg hi h2
      refine ⟨partV l j us, ?_, rp_part hu1 hu4 l j (by rw [← hu1, hu2]; exact h3)⟩
      have := run_loadVar_T (P := P) (w := w) hl ⟨b, i * k, none⟩ us j hu3 (by rw [hu2]; exact h3)
      rw [addr_add] at this
      simp [execOp, ho, hv, Instr.loadAt, Instr.sureAddr, this]
    · cases h
  · rename_i l cs hl hxt
    rw [hxt] at hx
    injection h with h; subst h
    obtain ⟨ad, us, hv, hu1, hu2, hu3⟩ := hx.ip_inv
    refine ⟨partV l 0 us, ?_, rp_part hu1 (fun j u c hu hc => .im (hu3 j u c hu hc)) l 0 hs⟩
    have := run_loadVar_T (P := P) (w := w) hl ad us 0 (fun j u hu => (hu2 j u hu).2.1) (by rw [hu1]; exact hs)
    have h0 : ad.add 0 = ad := rfl
    rw [h0] at this
    simp [execOp, ho, hv, Instr.loadAt, Instr.sureAddr, this]
  · cases h

/-! ### what may stand in one cell -/
def T.one : T → Bool
  | .v x => x.oneCell'
  | .sl .. | .asl .. | .ptr .. | .ip .. | .clo .. | .vw .. => true
  | _ => false

theorem one_value {st : Sto} {ι : Iota} {w : World} {A : Addr → Prop} {u : Value} {c : T} (h : Rp st ι w A u c) (h1 : c.one = true) (hd : ∀ id n, c = .asl id n → ∃ k xs fz, get st id = some (.arr k xs fz) ∧ xs.length = n)
    (hd' : ∀ id n i j, c = .ptr id n i j → ∃ k xs fz, get st id = some (.arr k xs fz) ∧ xs.length = n)
    (hd2 : ∀ id n i j, c = .vw id n i j → ∃ k xs fz, get st id = some (.arr k xs fz) ∧ xs.length = n) : u.oneCell' = true := by
  cases h with
  | im h => cases h <;> first | rfl | (simp [T.one] at h1; done) | exact h1
  | agg => simp [T.one] at h1
  | tup => simp [T.one] at h1
  | clo => rfl
  | mp => simp [T.one] at h1
  | asl id n v _ h =>
    obtain ⟨k, xs, fz, hg, hn⟩ := hd id n rfl
    have h2 := (h k xs fz hg).2 hn
    unfold slv at h2; split at h2
    · obtain ⟨p, rfl⟩ := h2; rfl
    · subst h2; rfl
  | ptr id n i j v _ h =>
    obtain ⟨k, xs, fz, hg, hn⟩ := hd' id n i j rfl
    obtain ⟨b, cap, _, rfl⟩ := (h k xs fz hg).2 hn
    rfl
  | vw id n lo len v _ h =>
    obtain ⟨k, xs, fz, hg, hn⟩ := hd2 id n lo len rfl
    have h2 := ((h k xs fz hg).2 hn).2
    unfold vwv at h2; split at h2
    · obtain ⟨p, rfl⟩ := h2; rfl
    · obtain ⟨p, rfl, _⟩ := h2; rfl

/-- a tree that one cell holds, with what it leans on alive -/
def live (st : Sto) : T → Prop
  | .v x => x.oneCell' = true
  | .sl .. | .ip .. | .clo .. => True
  | .asl id n => match get st id with | some (.arr _ xs _) => xs.length = n | _ => False
  | .ptr id n _ _ => match get st id with | some (.arr _ xs _) => xs.length = n | _ => False
  | .vw id n _ _ => match get st id with | some (.arr _ xs _) => xs.length = n | _ => False
  | _ => False

theorem live_value {st : Sto} {ι : Iota} {w : World} {A : Addr → Prop} {u : Value} {c : T} (h : Rp st ι w A u c) (h1 : live st c) : u.oneCell' = true := by
  refine one_value h ?_ ?_ ?_ ?_
  · cases c <;> simp_all [live, T.one]
  · rintro id n rfl
    simp only [live] at h1
    split at h1
    · rename_i k xs fz hg; exact ⟨k, xs, fz, hg, h1⟩
    · exact h1.elim
  · rintro id n i j rfl
    simp only [live] at h1
    split at h1
    · rename_i k xs fz hg; exact ⟨k, xs, fz, hg, h1⟩
    · exact h1.elim
  · rintro id n i j rfl
    simp only [live] at h1
    split at h1
    · rename_i k xs fz hg; exact ⟨k, xs, fz, hg, h1⟩
    · exact h1.elim

def lives (st : Sto) : List T → Prop
  | [] => True
  | c :: r => live st c ∧ lives st r

theorem lives_mem {st : Sto} {cs : List T} (h : lives st cs) : ∀ c ∈ cs, live st c := by
  induction cs with
  | nil => simp
  | cons c r ih =>
    intro d hd
    rcases List.mem_cons.1 hd with rfl | hd
    · exact h.1
    · exact ih h.2 d hd

theorem lives_iff {st : Sto} {cs : List T} : lives st cs ↔ ∀ c ∈ cs, live st c :=
  ⟨lives_mem, fun h => by
    induction cs with
    | nil => trivial
    | cons c r ih => exact ⟨h c (by simp), ih fun d hd => h d (by simp [hd])⟩⟩

/-- the cells of a value that reads as a tree -/
theorem rp_cells {st : Sto} {ι : Iota} {w : World} {A : Addr → Prop} {v : Value} {x : T} (h : Rp st ι w A v x) (hl : lives st x.cells) :
    v.cells.size = x.cells.length ∧ (∀ u ∈ v.cells.toList, u.oneCell' = true) ∧ ∀ (j : Nat) (u : Value) (c : T), v.cells.toList[j]? = some u → x.cells[j]? = some c → Rp st ι w A u c := by
  have single : ∀ y, x = y → (∀ cs, y ≠ .agg cs) → v.cells.size = x.cells.length ∧ (∀ u ∈ v.cells.toList, u.oneCell' = true) ∧ ∀ (j : Nat) (u : Value) (c : T), v.cells.toList[j]? = some u → x.cells[j]? = some c → Rp st ι w A u c := by
    rintro y rfl hy
    have hc : x.cells = [x] := by cases x <;> first | rfl | exact absurd rfl (hy _)
    rw [hc] at hl
    have h1 := live_value h hl.1
    have hv : v.cells = #[v] := by cases v <;> first | rfl | (simp [Value.oneCell'] at h1; done)
    rw [hc, hv]
    refine ⟨rfl, by simpa using h1, fun j u c hu hc' => ?_⟩
    cases j with
    | zero => simp at hu hc'; subst hu hc'; exact h
    | succ j => simp at hu
  cases x with
  | agg cs =>
    obtain ⟨us, rfl, h1, h2⟩ := h.agg_inv
    refine ⟨by simpa [Value.cells, T.cells] using h1, fun u hu => ?_, fun j u c hu hc => h2 j u c (by simpa [Value.cells] using hu) hc⟩
    simp only [Value.cells] at hu
    obtain ⟨j, hj, rfl⟩ := List.mem_iff_getElem.1 (by simpa using hu)
    have hj' : j < cs.length := by omega
    exact live_value (h2 j us[j] cs[j] (by simp [hj]) (by simp [hj'])) (lives_mem hl _ (by simp [T.cells]))
  | _ => exact single _ rfl (by simp)

theorem arr_newVar {P : Program} {w : World} (t : TypeId) (v : Value) : (newVar t v).run P w = .ok ⟨w.heap.size, 0, none⟩ (w.alloc (.cells v.cells t)) := rfl

theorem one_splice {cur : Array Value} {us : List Value} {p q : Nat} (h1 : ∀ (j : Nat) (u : Value), cur[j]? = some u → u.oneCell' = true) (h2 : ∀ u ∈ us, u.oneCell' = true) :
    ∀ (j : Nat) (u : Value), (cur.toList.take p ++ us ++ cur.toList.drop q).toArray[j]? = some u → u.oneCell' = true := by
  intro j u hu
  have hc : ∀ u ∈ cur.toList, u.oneCell' = true := fun u hu => by
    obtain ⟨i, hi, rfl⟩ := List.getElem_of_mem hu
    exact h1 i _ (by simp at hi; simp [hi])
  have hm := List.mem_of_getElem? (show (cur.toList.take p ++ us ++ cur.toList.drop q)[j]? = some u by simpa using hu)
  simp only [List.mem_append] at hm
  rcases hm with (hm | hm) | hm
  · exact hc u (List.mem_of_mem_take hm)
  · exact h2 u hm
  · exact hc u (List.mem_of_mem_drop hm)

/-! ### box, alloc -/
theorem Rel.newBox {ι : Iota} {a : Act} {w : World} (hR : Rel e s ι a w) {v : Value} {x : T} (hx : Rp s.st ι w (Av e s.st ι w) v x) (hl : lives s.st x.cells) (id : Nat) (hid : get s.st id = none) (t : TypeId) :
    ∃ ι', Rel e ⟨s.fr, (id, .arr x.cells.length [x] false) :: s.st⟩ ι' a (w.alloc (.cells v.cells t)) ∧
      Rp ((id, .arr x.cells.length [x] false) :: s.st) ι' (w.alloc (.cells v.cells t)) (Av e ((id, .arr x.cells.length [x] false) :: s.st) ι' (w.alloc (.cells v.cells t))) (.pointer (some ⟨w.heap.size, 0, none⟩)) (.ptr id 1 0 0) := by
  obtain ⟨h1, h2, h3⟩ := rp_cells hx hl
  have := hR.new id hid x.cells.length [x] false 1 v.cells t (by simp) (by rw [h1]; simp) (by simp) (by simp [maxLen]) (fun j u hu => h2 u (List.mem_of_getElem? (by simpa using hu))) (fun j u c hu hc => ⟨h2 u (List.mem_of_getElem? (by simpa using hu)), h3 j u c (by simpa using hu) (by simpa [flat] using hc)⟩)
  refine ⟨_, this.1, ?_⟩
  refine .ptr id 1 0 0 _ (by rw [get_cons_self]; simp) fun k xs fz hg => ?_
  rw [get_cons_self] at hg
  injection hg with hg; injection hg with e1 e2 e3
  subst e1 e2 e3
  exact ⟨by simp, fun _ => ⟨_, _, upd_self _ _ _, by simp⟩⟩

def boxT (s : St) (id : Nat) (x : T) : Res := ⟨get s.st id = none ∧ lives s.st x.cells, .ptr id 1 0 0, [(id, .arr x.cells.length [x] false)]⟩

theorem does_box {t : TypeId} {x : Operand} (ho : o.op = .box t x) (id : Nat) (hs : (boxT s id (Operand.t s x)).side) :
    Does P e o s (boxT s id (Operand.t s x)).val (boxT s id (Operand.t s x)).wr := by
  refine Does.of_run fun ι a w hR => ?_
  obtain ⟨ι', h1, h2⟩ := hR.newBox (hR.rp x) hs.2 id hs.1 t
  refine ⟨_, _, ι', ?_, h1, h2⟩
  simp [execOp, ho, Instr.box, arr_newVar]

theorem rp_ofV {st : Sto} {ι : Iota} {w : World} {A : Addr → Prop} (v : Value) : Rp st ι w A v (ofV v) := by
  cases v <;> simp only [ofV] <;> try exact .im (.v _)
  case agg cs =>
    have := Rp.agg (st := st) (ι := ι) (w := w) (A := A) cs.toList (cs.toList.map .v) (by simp)
      (fun j u c hu hc => by simp only [List.getElem?_map, hu, Option.map_some, Option.some.injEq] at hc; subst hc; exact .im (.v _))
    simpa using this

theorem run_zeroValue_T {P : Program} {t : TypeId} {z : T} (h : zrT P t = some z) (w : World) : ∃ v, (zeroValue t).run P w = .ok v w ∧ z = ofV v := by
  unfold zrT at h
  cases hi : P.info? t with
  | none => simp [hi] at h
  | some i =>
    cases hz : i.zero with
    | none => simp [hi, hz] at h
    | some v => simp [hi, hz] at h; exact ⟨v, by simp [zeroValue, typeInfo, hi, hz], h.symm⟩

def allocT (P : Program) (s : St) (id : Nat) (t : TypeId) : Option Res := (zrT P t).map (boxT s id)

theorem does_alloc {t : TypeId} (ho : o.op = .alloc t) (id : Nat) {r : Res} (h : allocT P s id t = some r) (hs : r.side) : Does P e o s r.val r.wr := by
  unfold allocT at h
  cases hz : zrT P t with
  | none => simp [hz] at h
  | some z =>
    simp [hz] at h
    subst h
    refine Does.of_run fun ι a w hR => ?_
    obtain ⟨v, h1, h2⟩ := run_zeroValue_T hz w
    obtain ⟨ι', h3, h4⟩ := hR.newBox (h2 ▸ rp_ofV v) hs.2 id hs.1 t
    refine ⟨_, _, ι', ?_, h3, h4⟩
    simp [execOp, ho, Instr.alloc, h1, arr_newVar]

/-! ### store -/
def repl (x : T) (j : Nat) (v : T) : T :=
  match x with
  | .agg cs => .agg (cs.take j ++ v.cells ++ cs.drop (j + v.cells.length))
  | _ => v

def replOk (x v : T) : Prop := match x with | .agg _ => True | _ => v.cells.length = 1

def storeT (P : Program) (s : St) (t : TypeId) (x v : T) : Option Res :=
  match x, szT P t with
  | .ptr id m i j, some n => match get s.st id with
    | some (.arr k xs false) => some ⟨xs.length = m ∧ i < xs.length ∧ v.cells.length = n ∧ j + n ≤ k ∧ replOk (xs.getD i .junk) v ∧ lives s.st v.cells, .v undef, [(id, .arr k (xs.set i (repl (xs.getD i .junk) j v)) false)]⟩
    | _ => none
  | _, _ => none

theorem repl_cells {x v : T} {j k : Nat} (hk : x.cells.length = k) (hj : j + v.cells.length ≤ k) (hr : replOk x v) :
    (repl x j v).cells = x.cells.take j ++ v.cells ++ x.cells.drop (j + v.cells.length) := by
  have single : ∀ y, x = y → (∀ cs, y ≠ .agg cs) → (repl x j v).cells = x.cells.take j ++ v.cells ++ x.cells.drop (j + v.cells.length) := by
    rintro y rfl hy
    have hc : x.cells = [x] := by cases x <;> first | rfl | exact absurd rfl (hy _)
    have hr' : v.cells.length = 1 := by cases x <;> first | exact hr | exact absurd rfl (hy _)
    have h2 : repl x j v = v := by cases x <;> first | rfl | exact absurd rfl (hy _)
    rw [hc] at hk
    simp only [List.length_cons, List.length_nil] at hk
    have : j = 0 := by omega
    subst this
    rw [h2, hc, hr']; simp
  cases x with
  | agg cs => rfl
  | _ => exact single _ rfl (by simp)

theorem flat_set {k : Nat} {xs : List T} (hk : ∀ x ∈ xs, x.cells.length = k) {i : Nat} (hi : i < xs.length) (y : T) :
    flat (xs.set i y) = (flat xs).take (i * k) ++ y.cells ++ (flat xs).drop (i * k + k) := by
  induction xs generalizing i with
  | nil => simp at hi
  | cons x xs ih =>
    have h1 := hk x (by simp)
    cases i with
    | zero =>
      simp only [flat, List.set_cons_zero, List.flatMap_cons, Nat.zero_mul, List.take_zero, List.nil_append, Nat.zero_add]
      rw [List.drop_append_of_le_length (by omega), List.drop_of_length_le (by omega)]
      simp
    | succ i =>
      have h2 := ih (fun y hy => hk y (by simp [hy])) (i := i) (by simpa using hi)
      simp only [flat, List.set_cons_succ, List.flatMap_cons] at h2 ⊢
      rw [h2]
      have e1 : (i + 1) * k = x.cells.length + i * k := by rw [Nat.add_mul, h1]; omega
      rw [e1, List.take_length_add_append, Nat.add_assoc, List.drop_length_add_append]
      simp

theorem does_store {t : TypeId} {x y : Operand} (ho : o.op = .store t x y) {r : Res} (h : storeT P s t (Operand.t s x) (Operand.t s y) = some r) (hs : r.side) : Does P e o s r.val r.wr := by
  unfold storeT at h
  split at h
  · rename_i id m i j n hxt hsz
    split at h
    · rename_i k xs hg
      injection h with h; subst h
      obtain ⟨h1, h2, h3, h4, h5, h6⟩ := hs
      refine Does.of_skip fun ι a w hR => ?_
      have hx := hR.rp x
      have hy := hR.rp y
      rw [hxt] at hx
      obtain ⟨b, cap, hi, hv⟩ := hx.ptr_inv hg h1
      obtain ⟨c1, c2, c3⟩ := rp_cells hy h6
      have hob := hR.ob id _ hg
      obtain ⟨hk, h0⟩ := hob
      rcases h0 with ⟨h0, _⟩ | ⟨b', cap', cur, E, g4, g5, g6, g7, g8, g9⟩
      · rw [h0] at hi; cases hi
      rw [g4] at hi; injection hi with hi; injection hi with e1 e2; subst e1 e2
      have hkk : (xs.getD i .junk).cells.length = k := hk _ (by simp [List.getD, h2])
      have hle : i * k + k ≤ cap' * k := by rw [← Nat.succ_mul]; exact Nat.mul_le_mul_right k (by omega)
      have hcl : (a.eval y).cells.toList.length = n := by rw [← h3, ← c1]; simp
      have hfit : i * k + j + (a.eval y).cells.toList.length ≤ cur.size := by rw [hcl, g6]; omega
      have hrun := run_storeCells_at P b' (i * k + j) E (a.eval y).cells.toList 0 cur w g5 (by simpa using hfit) c2
      simp only [Nat.add_zero] at hrun
      have hsz' : (a.eval y).cells.size = n := by simpa using hcl
      have hrepl := repl_cells (j := j) hkk (by rw [h3]; exact h4) h5
      have hrl : (repl (xs.getD i .junk) j (Operand.t s y)).cells.length = k := by
        rw [hrepl]; simp only [List.length_append, List.length_take, List.length_drop, hkk, h3]; omega
      let new : Array Value := (cur.toList.take (i * k + j) ++ (a.eval y).cells.toList ++ cur.toList.drop (i * k + j + (a.eval y).cells.toList.length)).toArray
      have hnew : new.size = cur.size := by
        simp only [new, List.size_toArray, List.length_append, List.length_take, List.length_drop, Array.length_toList]; omega
      have hheap : (w.setRow b' new).heap[b']? = some (.cells new E (0, 0)) := setRow_heap w b' cur new E _ g5
      have ht := hR.turn id k xs (xs.set i (repl (xs.getD i .junk) j (Operand.t s y))) false false hg (ι id) (w.setRow b' new) (by simp) (fun _ => rfl) (by simp)
        ⟨rfl, rfl, rfl, by simp [World.setRow], fun c _ hc => setRow_other w b' c new (fun e => hc (by simp [g4, e]))⟩ (.inl rfl) (by simp)
        (fun hm => by
          refine ⟨fun x hx => ?_, .inr ⟨b', cap', new, E, by rw [upd_self]; exact g4, hheap, by rw [hnew]; exact g6, by simpa using g7, ⟨g8.1, one_splice g8.2 c2⟩, fun q u c hu hc => ?_⟩⟩
          · rcases List.mem_or_eq_of_mem_set hx with hx | hx
            · exact hk x hx
            · rw [hx]; exact hrl
          · rw [flat_set hk h2, hrepl] at hc
            have hfl := flat_length hk
            have hlex : i * k + k ≤ (flat xs).length := by rw [hfl, ← Nat.succ_mul]; exact Nat.mul_le_mul_right k (by omega)
            have hu' : (cur.toList.take (i * k + j) ++ (a.eval y).cells.toList ++ cur.toList.drop (i * k + j + (a.eval y).cells.toList.length))[q]? = some u := by simpa [new] using hu
            clear hu
            suffices u.oneCell' = true ∧ Rp s.st ι w (Av e s.st ι w) u c from ⟨this.1, hm _ _ this.2⟩
            by_cases q1 : q < i * k
            · rw [List.append_assoc, List.getElem?_append_left (by simp; omega)] at hu'
              rw [List.append_assoc, List.getElem?_append_left (by simp; omega)] at hc
              rw [List.getElem?_take, if_pos (by omega)] at hu' hc
              exact g9 q u c (by simpa using hu') hc
            · obtain ⟨q', rfl⟩ : ∃ q', q = i * k + q' := ⟨q - i * k, by omega⟩
              have ht1 : ((flat xs).take (i * k)).length = i * k := by simp; omega
              rw [List.append_assoc, List.getElem?_append_right (by omega), ht1, Nat.add_sub_cancel_left] at hc
              by_cases q2 : q' < k
              · rw [List.getElem?_append_left (by rw [← hrepl, hrl]; exact q2)] at hc
                by_cases q3 : q' < j
                · rw [List.append_assoc, List.getElem?_append_left (by simp; omega)] at hu'
                  rw [List.append_assoc, List.getElem?_append_left (by rw [List.length_take, hkk]; omega)] at hc
                  rw [List.getElem?_take, if_pos (by omega)] at hu' hc
                  refine g9 (i * k + q') u c (by simpa using hu') ?_
                  rw [flat_get hk h2 q2]; exact hc
                · have ht2 : ((xs.getD i .junk).cells.take j).length = j := by rw [List.length_take, hkk]; omega
                  have ht3 : (cur.toList.take (i * k + j)).length = i * k + j := by simp; omega
                  rw [List.append_assoc, List.getElem?_append_right (by omega), ht3] at hu'
                  rw [List.append_assoc, List.getElem?_append_right (by omega), ht2] at hc
                  rw [show i * k + q' - (i * k + j) = q' - j by omega] at hu'
                  by_cases q4 : q' - j < n
                  · rw [List.getElem?_append_left (by omega)] at hu' hc
                    exact ⟨c2 u (List.mem_of_getElem? hu'), c3 _ u c hu' hc⟩
                  · rw [List.getElem?_append_right (by omega), List.getElem?_drop, hcl] at hu'
                    rw [List.getElem?_append_right (by omega), List.getElem?_drop, h3] at hc
                    refine g9 (i * k + q') u c ?_ ?_
                    · rw [show i * k + j + n + (q' - j - n) = i * k + q' by omega] at hu'; simpa using hu'
                    · rw [flat_get hk h2 q2]; rw [show j + n + (q' - j - n) = q' by omega] at hc; exact hc
              · rw [List.getElem?_append_right (by rw [← hrepl, hrl]; omega), ← hrepl, hrl, List.getElem?_drop, show i * k + k + (q' - k) = i * k + q' by omega] at hc
                have ht3 : (cur.toList.take (i * k + j)).length = i * k + j := by simp; omega
                rw [List.append_assoc, List.getElem?_append_right (by omega), ht3, List.getElem?_append_right (by omega), List.getElem?_drop, hcl,
                  show i * k + j + n + (i * k + q' - (i * k + j) - n) = i * k + q' by omega] at hu'
                exact g9 _ u c (by simpa using hu') hc)
      refine ⟨w.setRow b' new, upd ι id (ι id), ?_, ht.1⟩
      unfold szT at hsz
      cases hinf : P.info? t with
      | none => simp [hinf] at hsz
      | some inf =>
        simp [hinf] at hsz
        simp [execOp, ho, hv, Instr.storeAt, Instr.sureAddr, storeVar, sizeOf, typeInfo, hinf, hsz, hsz', hrun, new]
    · cases h
  · cases h

end
end Go.TL
