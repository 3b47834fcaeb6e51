/- make, literals. -/
import Derived.Test.YtnejebkdlofdoaaZzOps6
namespace Go.TL
set_option linter.unusedSimpArgs false
set_option linter.unusedVariables false

section
variable {P : Program} {e : Env} {o : Oper} {s : St}

theorem flat_replicate (n : Nat) (z : T) : flat (List.replicate n z) = (List.replicate n z.cells).flatten := by
  induction n with
  | zero => rfl
  | succ n ih => simp only [flat, List.replicate_succ, List.flatMap_cons, List.flatten_cons] at ih ⊢; rw [ih]

theorem flat_replicate_get (n k : Nat) (z : T) (hz : z.cells.length = k) (j : Nat) (hj : j < n * k) : (flat (List.replicate n z))[j]? = z.cells[j % k]? := by
  have hk : 0 < k := by
    apply Nat.pos_of_ne_zero
    intro h0; subst h0; simp at hj
  have hall : ∀ x ∈ List.replicate n z, x.cells.length = k := by
    intro x hx; rw [(List.mem_replicate.1 hx).2]; exact hz
  have h1 : j / k < n := (Nat.div_lt_iff_lt_mul hk).2 hj
  have h2 := flat_get hall (i := j / k) (j := j % k) (by simpa using h1) (Nat.mod_lt _ hk)
  have h3 : j / k * k + j % k = j := by rw [Nat.mul_comm]; exact Nat.div_add_mod j k
  rw [h3] at h2
  rw [h2]
  simp [List.getD, List.getElem?_replicate, h1]

theorem ofV_cells (v : Value) : (ofV v).cells.length = v.cells.size ∧ ∀ (j : Nat) (u : Value) (c : T), v.cells[j]? = some u → (ofV v).cells[j]? = some c → c = .v u := by
  cases v
  case agg cs =>
    refine ⟨by simp [ofV, T.cells, Value.cells], fun j u c hu hc => ?_⟩
    simp only [ofV, T.cells, List.getElem?_map, Value.cells] at hu hc
    rw [Array.getElem?_toList, hu] at hc
    simpa using hc.symm
  all_goals
    refine ⟨rfl, fun j u c hu hc => ?_⟩
    simp only [ofV, T.cells, Value.cells] at hu hc
    cases j with
    | zero => simp at hu hc; rw [← hc, hu]
    | succ j => simp at hu

def makeT (P : Program) (s : St) (nid : Nat) (ty : TypeId) (l c : T) : Option Res :=
  match P.underlying ty with
  | some (.slice el) => match zrT P el, szT P el, byT P ty, l, c with
    | some z, some k, some by_, .v (.int _ n), .v (.int _ m) =>
      some ⟨get s.st nid = none ∧ 0 ≤ n ∧ n ≤ m ∧ by_ * m.toNat ≤ 140737488355328 ∧ m ≤ 9223372036854775807 ∧ z.cells.length = k ∧ lives [] z.cells, .asl nid n.toNat, [(nid, .arr k (List.replicate n.toNat z) false)]⟩
    | _, _, _, _, _ => none
  | _ => none

theorem does_make {ty : TypeId} {x y : Operand} (ho : o.op = .makeSlice ty x y) (nid : Nat) {r : Res} (h : makeT P s nid ty (Operand.t s x) (Operand.t s y) = some r) (hs : r.side) : Does P e o s r.val r.wr := by
  unfold makeT at h
  split at h
  · rename_i el hu
    split at h
    · rename_i z k by_ kn n km m hz hk hb hx hy
      injection h with h; subst h
      obtain ⟨hn, h0, hnm, hby, hm, hzk, hzl⟩ := hs
      refine Does.of_run fun ι act w hR => ?_
      have hvx := (hx ▸ hR.rp x).v_inv
      have hvy := (hy ▸ hR.rp y).v_inv
      obtain ⟨inf, hi, hisz⟩ : ∃ inf, P.info? el = some inf ∧ inf.size = k := by
        unfold szT at hk
        cases hi : P.info? el with
        | none => simp [hi] at hk
        | some inf => simp [hi] at hk; exact ⟨inf, rfl, hk⟩
      obtain ⟨zv, hzv, hzo⟩ : ∃ zv, inf.zero = some zv ∧ z = ofV zv := by
        unfold zrT at hz
        cases hq : inf.zero with
        | none => simp [hi, hq] at hz
        | some zv => simp [hi, hq] at hz; exact ⟨zv, rfl, hz.symm⟩
      have hbytes : inf.bytes = by_ := by
        unfold byT at hb; rw [hu] at hb; simp only [hi, Option.map_some, Option.some.injEq] at hb; exact hb
      subst hisz hzo hbytes
      obtain ⟨hc1, hc2⟩ := ofV_cells zv
      have hzs : zv.cells.size = inf.size := by rw [← hc1, hzk]
      have hr := run_make (P := P) w ty el inf zv hu hi hzv kn km n m h0 hnm (by
        have : ((inf.bytes * m.toNat : Nat) : Int) ≤ ((140737488355328 : Nat) : Int) := Int.ofNat_le.2 hby
        rw [Int.natCast_mul, Int.toNat_of_nonneg (by omega)] at this
        omega) hm
      let cur := madeCells zv.cells (m.toNat * inf.size)
      have hcs : cur.size = m.toNat * inf.size := by simp [cur, madeCells]
      have hnw := hR.new nid hn inf.size (List.replicate n.toNat (ofV zv)) false m.toNat cur el
        (fun x hx => by rw [(List.mem_replicate.1 hx).2]; exact hzk) hcs (by rw [List.length_replicate]; omega) (by simp only [maxLen]; omega)
        (fun j u hu' => by
          have hjm : j < m.toNat * inf.size := by rw [← hcs]; exact (Array.getElem?_eq_some_iff.1 hu').1
          have hk0 : 0 < inf.size := by
            apply Nat.pos_of_ne_zero
            intro h0; rw [h0] at hjm; simp at hjm
          have hmod : j % inf.size < zv.cells.size := by rw [hzs]; exact Nat.mod_lt _ hk0
          have hu2 : zv.cells[j % inf.size]? = some u := by
            simp only [cur, madeCells] at hu'
            rw [Array.getElem?_map] at hu'
            simp [hjm, hzs] at hu'
            rw [← hu', getElem!_pos zv.cells _ hmod]
            simp [hmod]
          obtain ⟨c, hc⟩ : ∃ c, (ofV zv).cells[j % inf.size]? = some c := ⟨(ofV zv).cells[j % inf.size]'(by rw [hc1]; exact hmod), List.getElem?_eq_getElem _⟩
          have hcc := hc2 _ u c hu2 hc
          subst hcc
          exact lives_mem hzl _ (List.mem_of_getElem? hc))
        (fun j u c hu' hc' => by
          have hjl : j < n.toNat * inf.size := by
            have := (List.getElem?_eq_some_iff.1 hc').1
            rw [flat_length (k := inf.size) (fun x hx => by rw [(List.mem_replicate.1 hx).2]; exact hzk), List.length_replicate] at this
            exact this
          rw [flat_replicate_get _ _ _ hzk j hjl] at hc'
          have hjm : j < m.toNat * inf.size := Nat.lt_of_lt_of_le hjl (Nat.mul_le_mul_right _ (by omega))
          have hk0 : 0 < inf.size := by
            apply Nat.pos_of_ne_zero
            intro h0; rw [h0] at hjl; simp at hjl
          have hmod : j % inf.size < zv.cells.size := by rw [hzs]; exact Nat.mod_lt _ hk0
          have hu2 : zv.cells[j % inf.size]? = some u := by
            simp only [cur, madeCells] at hu'
            rw [Array.getElem?_map] at hu'
            simp [hjm, hzs] at hu'
            rw [← hu', getElem!_pos zv.cells _ hmod]
            simp [hmod]
          have hcc := hc2 _ u c hu2 hc'
          subst hcc
          refine ⟨?_, .im (.v _)⟩
          have := lives_mem hzl _ (List.mem_of_getElem? hc')
          exact this)
      refine ⟨.slice (some ⟨w.heap.size, 0, none⟩) n.toNat m.toNat, _, _, ?_, hnw.1, ?_⟩
      · simp only [execOp, ho, hvx, hvy]
        simp [hr, cur]
      · refine .asl nid _ _ (by simp [stw, get]) fun k2 xs2 fz2 hg2 => ?_
        simp only [stw, List.cons_append, List.nil_append] at hg2
        rw [get_cons_self] at hg2; injection hg2 with hg2; injection hg2 with e1 e2 e3
        subst e1 e2 e3
        exact ⟨by simp, fun _ => by rw [upd_self]; rfl⟩
    · cases h
  · cases h

/-! ### struct and array literals -/
def fillT (place : Nat → Option (Nat × Nat)) (cells : List T) : List (Nat × T) → Option (List T)
  | [] => some cells
  | (i, x) :: r =>
    match place i with
    | none => none
    | some (off, n) => if x.cells.length = n ∧ off + n ≤ cells.length then fillT place (cells.take off ++ x.cells ++ cells.drop (off + n)) r else none

def plT (P : Program) (t : TypeId) (i : Nat) : Option (Nat × Nat) :=
  match P.underlying t with
  | some (.struct fs) => match fs[i]? with
    | some f => (szT P f.type).map fun n => (f.offset, n)
    | none => none
  | some (.array _ e) => (szT P e).map fun n => (i * n, n)
  | _ => none

/-- the field's types are known -/
def fsOk (P : Program) (t : TypeId) : Bool :=
  match P.underlying t with
  | some (.struct fs) => fs.toList.all fun f => (szT P f.type).isSome
  | some (.array _ e) => (szT P e).isSome
  | _ => false

def partsT (s : St) (parts : Array (Nat × Operand)) : List (Nat × T) := parts.toList.map fun p => (p.1, Operand.t s p.2)

def allLive (st : Sto) (l : List (Nat × T)) : Prop := match l with | [] => True | p :: r => lives st p.2.cells ∧ allLive st r

def buildT (P : Program) (s : St) (t : TypeId) (parts : Array (Nat × Operand)) : Option Res :=
  match zrT P t, fsOk P t with
  | some z, true => match fillT (plT P t) z.cells (partsT s parts) with
    | some cs => some ⟨allLive s.st (partsT s parts), .agg cs, []⟩
    | none => none
  | _, _ => none

theorem zip_fold (cs : List Value) (off : Nat) (vs : List Value) (h : off + vs.length ≤ cs.length) :
    (vs.toArray.zipIdx.foldl (fun (acc : Array Value) (p : Value × Nat) => acc.setIfInBounds (off + p.2) p.1) cs.toArray) = (cs.take off ++ vs ++ cs.drop (off + vs.length)).toArray := by
  have key : ∀ (vs : List Value) (k : Nat) (cs : List Value), off + k + vs.length ≤ cs.length →
      (vs.zipIdx k).foldl (fun (acc : Array Value) (p : Value × Nat) => acc.setIfInBounds (off + p.2) p.1) cs.toArray = (cs.take (off + k) ++ vs ++ cs.drop (off + k + vs.length)).toArray := by
    intro vs
    induction vs with
    | nil => intro k cs _; simp
    | cons v vs ih =>
      intro k cs hl
      simp only [List.zipIdx_cons, List.foldl_cons, List.setIfInBounds_toArray]
      simp only [List.length_cons] at hl
      rw [ih (k + 1) (cs.set (off + k) v) (by simp; omega)]
      congr 1
      simp only [List.length_cons]
      rw [List.drop_set_of_lt (by omega), show off + (k + 1) = off + k + 1 by omega, List.take_succ_eq_append_getElem (by simp; omega)]
      simp [List.take_set_of_le, show off + k + 1 + vs.length = off + k + (vs.length + 1) by omega]
  have := key vs 0 cs (by omega)
  simpa [← Array.foldl_toList] using this

theorem fill_sound {st : Sto} {ι : Iota} {w : World} {A : Addr → Prop} {place : Nat → Option (Nat × Nat)} :
    ∀ (parts : List (Nat × T)) (vparts : List (Nat × Value)) (cells : List T) (vcells : List Value) (cs : List T), vparts.length = parts.length →
      (∀ (j : Nat) (p : Nat × T) (q : Nat × Value), parts[j]? = some p → vparts[j]? = some q → p.1 = q.1 ∧ Rp st ι w A q.2 p.2) → allLive st parts →
      vcells.length = cells.length → (∀ (j : Nat) (u : Value) (c : T), vcells[j]? = some u → cells[j]? = some c → Rp st ι w A u c) → fillT place cells parts = some cs →
      ∃ us : List Value, Instr.fill place vcells.toArray vparts = some us.toArray ∧ us.length = cs.length ∧ ∀ (j : Nat) (u : Value) (c : T), us[j]? = some u → cs[j]? = some c → Rp st ι w A u c
  | [], vparts, cells, vcells, cs, hl, hp, hlv, hvl, hv, hf => by
    have : vparts = [] := List.eq_nil_of_length_eq_zero hl
    subst this
    simp only [fillT, Option.some.injEq] at hf
    subst hf
    exact ⟨vcells, rfl, hvl, hv⟩
  | (i, x) :: r, vparts, cells, vcells, cs, hl, hp, hlv, hvl, hv, hf => by
    cases vparts with
    | nil => simp at hl
    | cons q vr =>
      obtain ⟨h1, h2⟩ := hp 0 (i, x) q rfl rfl
      obtain ⟨qi, qv⟩ := q
      simp only at h1 h2
      subst h1
      obtain ⟨c1, c2, c3⟩ := rp_cells h2 hlv.1
      simp only [fillT] at hf
      split at hf
      · cases hf
      · rename_i off n hpl
        split at hf
        · rename_i hn
          obtain ⟨hn1, hn2⟩ := hn
          have hvn : qv.cells.toList.length = n := by rw [← hn1, ← c1]; simp
          have ih := fill_sound r vr (cells.take off ++ x.cells ++ cells.drop (off + n)) (vcells.take off ++ qv.cells.toList ++ vcells.drop (off + n)) cs (by simpa using hl)
            (fun j p q hp' hq' => hp (j + 1) p q (by simpa using hp') (by simpa using hq')) hlv.2
            (by simp [hvl]; omega)
            (fun j u c hu hc => by
              have e1 : (cells.take off).length = off := by simp; omega
              have e2 : (vcells.take off).length = off := by simp; omega
              by_cases j1 : j < off
              · rw [List.append_assoc, List.getElem?_append_left (by omega), List.getElem?_take, if_pos j1] at hu hc
                exact hv j u c hu hc
              · rw [List.append_assoc, List.getElem?_append_right (by omega), e2] at hu
                rw [List.append_assoc, List.getElem?_append_right (by omega), e1] at hc
                by_cases j2 : j - off < n
                · rw [List.getElem?_append_left (by omega)] at hu hc
                  exact c3 _ u c hu hc
                · rw [List.getElem?_append_right (by omega), List.getElem?_drop, hvn] at hu
                  rw [List.getElem?_append_right (by omega), List.getElem?_drop, hn1] at hc
                  exact hv _ u c hu hc) hf
          obtain ⟨us, f1, f2, f3⟩ := ih
          refine ⟨us, ?_, f2, f3⟩
          have hsz : qv.cells.size = n := by simpa using hvn
          simp only [Instr.fill, hpl]
          rw [if_neg (by simp [hsz, hvl]; omega)]
          have := zip_fold vcells off qv.cells.toList (by rw [hvn, hvl]; exact hn2)
          rw [hvn] at this
          rw [Array.toArray_toList] at this
          rw [← f1]
          congr 1
        · cases hf

theorem fill_congr {p q : Nat → Option (Nat × Nat)} (h : p = q) (cs : Array Value) (l : List (Nat × Value)) : Instr.fill p cs l = Instr.fill q cs l := by rw [h]

theorem does_build {t : TypeId} {parts : Array (Nat × Operand)} (ho : o.op = .build t parts) {r : Res} (h : buildT P s t parts = some r) (hs : r.side) : Does P e o s r.val r.wr := by
  unfold buildT at h
  split at h
  · rename_i z hz hok
    split at h
    · rename_i cs hf
      injection h with h; subst h
      refine Does.of_value fun ι act w hR => ?_
      obtain ⟨zv, hzv, rfl⟩ := run_zeroValue_T hz w
      obtain ⟨hc1, hc2⟩ := ofV_cells zv
      have hfs := fill_sound (st := s.st) (ι := ι) (w := w) (A := Av e s.st ι w) (partsT s parts) (parts.toList.map fun p => (p.1, act.eval p.2)) (ofV zv).cells zv.cells.toList cs (by simp [partsT])
        (fun j p q hp hq => by
          simp only [partsT, List.getElem?_map] at hp hq
          cases hj : parts.toList[j]? with
          | none => simp [hj] at hp
          | some x => simp [hj] at hp hq; subst hp hq; exact ⟨rfl, hR.rp x.2⟩) hs (by rw [hc1]; simp)
        (fun j u c hu hc => by
          have := hc2 j u c (by simpa using hu) hc
          subst this; exact .im (.v _)) hf
      obtain ⟨us, f1, f2, f3⟩ := hfs
      refine ⟨.agg us.toArray, ?_, .agg us cs f2 f3⟩
      rw [Array.toArray_toList] at f1
      unfold fsOk at hok
      split at hok
      · rename_i fs hu
        have hsome : ∀ f ∈ fs.toList, ∃ i, P.info? f.type = some i := by
          intro f hf'
          have := List.all_eq_true.1 hok f hf'
          unfold szT at this
          cases hi : P.info? f.type with
          | none => simp [hi] at this
          | some i => exact ⟨i, rfl⟩
        have hmap : ∀ (l : List Field), (∀ f ∈ l, ∃ i, P.info? f.type = some i) →
            (l.mapM fun f => Prod.mk f.offset <$> sizeOf f.type : Sem (List (Nat × Nat))).run P w = .ok (l.map fun f => (f.offset, ((P.info? f.type).map (·.size)).getD 0)) w := by
          intro l
          induction l with
          | nil => intro _; simp
          | cons f l ih =>
            intro hl
            obtain ⟨i, hi⟩ := hl f (by simp)
            have := ih (fun g hg => hl g (by simp [hg]))
            simp [List.mapM_cons, sizeOf, typeInfo, hi] at this ⊢
            simp [this]
        have hplace : (fun i => (fs.map fun f => (f.offset, ((P.info? f.type).map (·.size)).getD 0))[i]?) = plT P t := by
          funext i
          unfold plT
          rw [hu]
          simp only [Array.getElem?_map]
          cases hq : fs[i]? with
          | none => simp
          | some f =>
            obtain ⟨inf, hi⟩ := hsome f (by
              have := Array.mem_of_getElem? hq
              simpa using this)
            simp [szT, hi]
        have hm := hmap fs.toList hsome
        have hmA : (fs.mapM fun f => Prod.mk f.offset <$> sizeOf f.type : Sem (Array (Nat × Nat))).run P w = .ok (fs.map fun f => (f.offset, ((P.info? f.type).map (·.size)).getD 0)) w := by
          rw [Array.mapM_eq_mapM_toList, ← bind_pure_comp]
          simp only [Sem.run_bind, hm, Result.andThen_ok, Sem.run_pure]
          congr 1
          rw [← Array.toList_map]
        simp [execOp, ho, Instr.build, hzv, run_underlying hu, hmA]
        simp only [← Array.getElem?_map, hplace, f1]
        simp
      · rename_i n el hu
        obtain ⟨inf, hi⟩ : ∃ i, P.info? el = some i := by
          unfold szT at hok
          cases hi : P.info? el with
          | none => simp [hi] at hok
          | some i => exact ⟨i, rfl⟩
        have hplace : (fun i => some (i * inf.size, inf.size)) = plT P t := by
          funext i
          unfold plT
          rw [hu]
          simp [szT, hi]
        simp only [execOp, ho, Instr.build, Sem.run_bind, hzv, Result.andThen_ok, run_underlying hu, sizeOf, typeInfo]
        simp [hi, hplace, f1]
      · cases hok
    · cases h
  · cases h


/-! ### slice literals -/
def lenAll (k : Nat) : List T → Prop
  | [] => True
  | x :: r => x.cells.length = k ∧ lenAll k r
theorem lenAll_mem {k : Nat} {xs : List T} (h : lenAll k xs) : ∀ x ∈ xs, x.cells.length = k := by
  induction xs with
  | nil => simp
  | cons x r ih =>
    intro y hy
    rcases List.mem_cons.1 hy with rfl | hy
    · exact h.1
    · exact ih h.2 y hy

/-- the numbers are 0, 1, 2 .. -/
def inOrder : Nat → List (Nat × Operand) → Bool
  | _, [] => true
  | i, (j, _) :: r => i == j && inOrder (i + 1) r

def buildSliceT (P : Program) (s : St) (nid : Nat) (t : TypeId) (len : Nat) (parts : Array (Nat × Operand)) : Option Res :=
  match ixT P t, zrOk P t, inOrder 0 parts.toList with
  | some (none, k), true, true => if parts.size = len ∧ len * k ≤ 16777216 ∧ len ≤ 16777216 then
      some ⟨get s.st nid = none ∧ allLive s.st (partsT s parts) ∧ lenAll k ((partsT s parts).map (·.2)), .asl nid len, [(nid, .arr k ((partsT s parts).map (·.2)) false)]⟩ else none
  | _, _, _ => none

theorem inOrder_get : ∀ (l : List (Nat × Operand)) (i j : Nat) (p : Nat × Operand), inOrder i l = true → l[j]? = some p → p.1 = i + j
  | [], _, _, _, _, h => by simp at h
  | (a, b) :: r, i, j, p, h, hj => by
    simp only [inOrder, Bool.and_eq_true, beq_iff_eq] at h
    cases j with
    | zero => simp at hj; subst hj; exact h.1.symm
    | succ j =>
      have := inOrder_get r (i + 1) j p h.2 (by simpa using hj)
      omega

theorem fillT_slice (k : Nat) : ∀ (parts : List (Nat × T)) (i : Nat) (pre rest : List T), (∀ (j : Nat) (p : Nat × T), parts[j]? = some p → p.1 = i + j) → lenAll k (parts.map (·.2)) → pre.length = i * k → rest.length = parts.length * k →
    fillT (fun i => some (i * k, k)) (pre ++ rest) parts = some (pre ++ flat (parts.map (·.2)))
  | [], i, pre, rest, _, _, hp, hr => by
    have : rest = [] := List.eq_nil_of_length_eq_zero (by simpa using hr)
    subst this
    simp [fillT, flat]
  | (a, x) :: r, i, pre, rest, ho, hl, hp, hr => by
    have ha : a = i := ho 0 (a, x) rfl
    subst ha
    obtain ⟨h1, h2⟩ := hl
    have hrl : rest.length = k + r.length * k := by rw [hr, List.length_cons, Nat.add_mul]; omega
    simp only [fillT]
    rw [if_pos ⟨h1, by simp [hp]; omega⟩]
    have e1 : (pre ++ rest).take (a * k) = pre := by rw [← hp]; simp
    have e2 : (pre ++ rest).drop (a * k + k) = rest.drop k := by rw [← hp, List.drop_length_add_append]
    rw [e1, e2]
    have ih := fillT_slice k r (a + 1) (pre ++ x.cells) (rest.drop k) (fun j p hj => by have := ho (j + 1) p (by simpa using hj); omega) h2 (by simp [hp, h1, Nat.add_mul]) (by simp; omega)
    rw [ih]
    simp [flat]

theorem does_buildSlice {t : TypeId} {len : Nat} {parts : Array (Nat × Operand)} (ho : o.op = .buildSlice t len parts) (nid : Nat) {r : Res} (h : buildSliceT P s nid t len parts = some r) (hs : r.side) : Does P e o s r.val r.wr := by
  unfold buildSliceT at h
  split at h
  · rename_i k hix hz hord
    split at h
    · rename_i hlen
      obtain ⟨hlen, hbig, hbig2⟩ := hlen
      injection h with h; subst h
      obtain ⟨hn, hlv, hla⟩ := hs
      obtain ⟨el, inf, g1, g2, g3⟩ := ixT_slice hix
      obtain ⟨z, hz1, hz2⟩ : ∃ z, inf.zero = some z ∧ z.cells.size = inf.size := by
        unfold zrOk at hz; rw [g1] at hz; simp [g2] at hz
        split at hz
        · rename_i z hz'; exact ⟨z, hz', (by simpa using hz : _ ∧ _).1⟩
        · cases hz
      subst g3
      refine Does.of_run fun ι act w hR => ?_
      let zs : Array Value := if len * inf.size = 0 then #[] else z.cells
      let init : Array Value := (Array.range (len * inf.size)).map (zs[· % zs.size]!)
      have hinit : init.size = len * inf.size := by simp [init]
      have hpl : (partsT s parts).length = len := by simp [partsT, hlen]
      have hft := fillT_slice inf.size (partsT s parts) 0 [] (List.replicate (len * inf.size) .junk)
        (fun j p hj => by
          simp only [partsT, List.getElem?_map] at hj
          cases hq : parts.toList[j]? with
          | none => simp [hq] at hj
          | some q => simp [hq] at hj; subst hj; exact inOrder_get _ _ _ _ hord hq) hla (by simp) (by rw [List.length_replicate, hpl])
      simp only [List.nil_append] at hft
      have hfs := fill_sound (st := s.st) (ι := ι) (w := w) (A := Av e s.st ι w) (partsT s parts) (parts.toList.map fun p => (p.1, act.eval p.2)) (List.replicate (len * inf.size) .junk) init.toList _ (by simp [partsT])
        (fun j p q hp hq => by
          simp only [partsT, List.getElem?_map] at hp hq
          cases hj : parts.toList[j]? with
          | none => simp [hj] at hp
          | some x => simp [hj] at hp hq; subst hp hq; exact ⟨rfl, hR.rp x.2⟩) hlv (by simp [hinit])
        (fun j u c hu hc => by
          rw [List.getElem?_replicate] at hc
          split at hc
          · injection hc with hc; subst hc; exact .im (.junk _)
          · cases hc) hft
      obtain ⟨us, f1, f2, f3⟩ := hfs
      rw [Array.toArray_toList] at f1
      have hlam := lenAll_mem hla
      have hfl := flat_length hlam
      have hml : ((partsT s parts).map (·.2)).length = len := by rw [List.length_map, hpl]
      have hone : ∀ (j : Nat) (u : Value) (c : T), us[j]? = some u → (flat ((partsT s parts).map (·.2)))[j]? = some c → u.oneCell' = true := by
        intro j u c hu hc
        have hmem := List.mem_of_getElem? hc
        simp only [flat, List.mem_flatMap, List.mem_map] at hmem
        obtain ⟨y, ⟨p, hp, rfl⟩, hcy⟩ := hmem
        have hal : ∀ (l : List (Nat × T)), allLive s.st l → ∀ p ∈ l, lives s.st p.2.cells := by
          intro l
          induction l with
          | nil => simp
          | cons q l ih =>
            intro h p hp
            rcases List.mem_cons.1 hp with rfl | hp
            · exact h.1
            · exact ih h.2 p hp
        exact live_value (f3 j u c hu hc) (lives_mem (hal _ hlv p hp) _ hcy)
      have hnw := hR.new nid hn inf.size ((partsT s parts).map (·.2)) false len us.toArray el hlam (by rw [List.size_toArray, f2, hfl, hml]) (by omega) (by simp only [maxLen]; omega)
        (fun j u hu => by
          have hj : j < (flat ((partsT s parts).map (·.2))).length := by
            rw [← f2]
            have := (Array.getElem?_eq_some_iff.1 hu).1
            simpa using this
          exact hone j u _ (by simpa using hu) (List.getElem?_eq_getElem hj))
        (fun j u c hu hc => ⟨hone j u c (by simpa using hu) hc, f3 j u c (by simpa using hu) hc⟩)
      refine ⟨.slice (some ⟨w.heap.size, 0, none⟩) len len, _, _, ?_, hnw.1, ?_⟩
      · have hb : ¬ (16777216 < len * inf.size) := by omega
        simp only [execOp, ho, Instr.buildSlice]
        by_cases hz0 : len * inf.size = 0
        · have : init = #[] := Array.eq_empty_of_size_eq_zero (by rw [hinit, hz0])
          rw [this] at f1
          have hr0 : Array.map (fun (_ : Nat) => (default : Value)) (Array.range 0) = #[] := by apply Array.eq_empty_of_size_eq_zero; simp
          simp [run_underlying g1, sizeOf, typeInfo, g2, hz0, hr0, f1, newRow]
        · have hin : init = (Array.range (len * inf.size)).map (z.cells[· % z.cells.size]!) := by simp [init, zs, hz0]
          rw [hin] at f1
          simp [run_underlying g1, sizeOf, typeInfo, g2, hz0, hb, zeroValue, hz1, f1, newRow]
      · refine .asl nid _ _ (by simp [stw, get]) fun k2 xs2 fz2 hg2 => ?_
        simp only [stw, List.cons_append, List.nil_append] at hg2
        rw [get_cons_self] at hg2; injection hg2 with hg2; injection hg2 with e1 e2 e3
        subst e1 e2 e3
        exact ⟨by omega, fun _ => by rw [upd_self]; rfl⟩
    · cases h
  · cases h

end
end Go.TL
