/- append -/
import Derived.Test.YtnejebkdlofdoaaZzOps5
namespace Go.TL
set_option linter.unusedSimpArgs false
set_option linter.unusedVariables false

def strOrSl (d : TypeDesc) : Prop := d = .string ∨ ∃ q, d = .slice q

section
variable {P : Program} {w : World}

theorem run_app_room (t tx ty el : TypeId) (i : TypeInfo) (d : TypeDesc) (ht : P.underlying t = some (.slice el)) (hx : P.underlying tx = some d) (hd : strOrSl d) (hi : P.info? el = some i)
    (b m cap n : Nat) (cur : Array Value) (hb : w.heap[b]? = some (.cells cur el (0, 0)) ∨ ∃ E, w.heap[b]? = some (.cells cur E (0, 0))) (y : Value) (news : List Value)
    (hL : ∀ w' : World, (Builtin.lenOf y).run P w' = .ok n w') (hY : ∀ w' : World, w'.heap = w.heap → (Builtin.firstCells i.size n y).run P w' = .ok news.toArray w')
    (hn : news.length = n * i.size) (h1 : ∀ u ∈ news, u.oneCell' = true) (hroom : m + n ≤ cap) (hfit : m * i.size + news.length ≤ cur.size) :
    (Builtin.append_ #[t, tx] ty #[.slice (some ⟨b, 0, none⟩) m cap, y]).run P w =
      .ok (.slice (some ⟨b, 0, none⟩) (m + n) cap) (w.setRow b (cur.toList.take (m * i.size) ++ news ++ cur.toList.drop (m * i.size + news.length)).toArray) := by
  obtain ⟨E, hb⟩ : ∃ E, w.heap[b]? = some (.cells cur E (0, 0)) := by
    rcases hb with hb | hb
    · exact ⟨_, hb⟩
    · exact hb
  have hst := run_storeCells_at P b (m * i.size) E news 0 cur w hb (by simpa using hfit) h1
  simp only [Nat.add_zero] at hst
  rcases hd with rfl | ⟨q, rfl⟩ <;>
  simp [Builtin.append_, run_underlying ht, run_underlying hx, sizeOf, typeInfo, hi, hL, hroom, hY, hst, addr_add]

theorem run_app_roomV (t tx ty el : TypeId) (i : TypeInfo) (d : TypeDesc) (ht : P.underlying t = some (.slice el)) (hx : P.underlying tx = some d) (hd : strOrSl d) (hi : P.info? el = some i)
    (b off m cap n : Nat) (cur : Array Value) (hb : ∃ E, w.heap[b]? = some (.cells cur E (0, 0))) (y : Value) (news : List Value)
    (hL : ∀ w' : World, (Builtin.lenOf y).run P w' = .ok n w') (hY : ∀ w' : World, w'.heap = w.heap → (Builtin.firstCells i.size n y).run P w' = .ok news.toArray w')
    (hn : news.length = n * i.size) (h1 : ∀ u ∈ news, u.oneCell' = true) (hroom : m + n ≤ cap) (hfit : off + m * i.size + news.length ≤ cur.size) :
    (Builtin.append_ #[t, tx] ty #[.slice (some ⟨b, off, none⟩) m cap, y]).run P w =
      .ok (.slice (some ⟨b, off, none⟩) (m + n) cap) (w.setRow b (cur.toList.take (off + m * i.size) ++ news ++ cur.toList.drop (off + m * i.size + news.length)).toArray) := by
  obtain ⟨E, hb⟩ := hb
  have hst := run_storeCells_at P b (off + m * i.size) E news 0 cur w hb (by simpa using hfit) h1
  simp only [Nat.add_zero] at hst
  rcases hd with rfl | ⟨q, rfl⟩ <;>
  simp [Builtin.append_, run_underlying ht, run_underlying hx, sizeOf, typeInfo, hi, hL, hroom, hY, hst, addr_add]

theorem run_app_grow (t tx ty el : TypeId) (i : TypeInfo) (z : Value) (d : TypeDesc) (ht : P.underlying t = some (.slice el)) (hx : P.underlying tx = some d) (hd : strOrSl d) (hi : P.info? el = some i) (hz : i.zero = some z)
    (p : Option Addr) (m cap n : Nat) (y : Value) (olds news : List Value)
    (hO : ∀ w' : World, w'.heap = w.heap → (Builtin.firstCells i.size m (.slice p m cap)).run P w' = .ok olds.toArray w')
    (hL : ∀ w' : World, (Builtin.lenOf y).run P w' = .ok n w') (hY : ∀ w' : World, w'.heap = w.heap → (Builtin.firstCells i.size n y).run P w' = .ok news.toArray w')
    (hg : cap < m + n) (h63 : m + n ≤ 9223372036854775807) (hby : 0 < i.bytes) (hfit : (m + n) * i.bytes ≤ 140737488355328) :
    (Builtin.append_ #[t, tx] ty #[.slice p m cap, y]).run P w =
      .ok (.slice (some ⟨w.heap.size, 0, none⟩) (m + n) (grownCap w (m + n) cap el))
        (w.drew.alloc (.cells (olds.toArray ++ news.toArray ++ Builtin.zeroCells z.cells (grownCap w (m + n) cap el - (m + n))) el)) := by
  have hO' := hO w.drew rfl
  have hY' := hY w.drew rfl
  have hn : ¬ (m + n ≤ cap) := by omega
  have h63' : ¬ (9223372036854775807 < ((m : Int) + (n : Int))) := by omega
  have h48' : ¬ (281474976710656 < Builtin.nextslicecap (m + n) cap * i.bytes) := by
    have := growslice_fits (need := m + n) (old := cap) (bytes := i.bytes) hg hfit
    omega
  rcases hd with rfl | ⟨q, rfl⟩ <;>
  simp [Builtin.append_, run_underlying ht, run_underlying hx, sizeOf, typeInfo, zeroValue, hi, hz, hL, hn, h63', h48', Question.forced, hO', hY', newRow, grownCap]
  all_goals (congr 2; apply Array.ext'; simp [List.append_assoc])
end

def byT (P : Program) (t : TypeId) : Option Nat :=
  match P.underlying t with
  | some (.slice e) => (P.info? e).map (·.bytes)
  | _ => none
/-- the element's zero has the element's cells -/
def zrOk (P : Program) (t : TypeId) : Bool :=
  match P.underlying t with
  | some (.slice e) => match P.info? e with
    | some i => match i.zero with
      | some z => z.cells.size == i.size && z.cells.all (fun u => u.oneCell')
      | none => false
    | none => false
  | _ => false

/-- what is appended -/
def appY (P : Program) (st : Sto) (ty1 : TypeId) (y : T) : Option (Option Nat × List T) :=
  match P.underlying ty1 with
  | some .string => match y with
    | .v (.string s) => some (some 1, s.data.toList.map byteT)
    | _ => none
  | some (.slice _) => conT st y
  | _ => none

def appendT (P : Program) (s : St) (nid : Nat) (ty0 ty1 : TypeId) (x y : T) : Option Res :=
  match ixT P ty0, byT P ty0, zrOk P ty0, appY P s.st ty1 y with
  | some (none, k), some by_, true, some (k', ys) =>
    if (k' = none ∨ k' = some k) then
      match x with
      | .asl id m => match get s.st id with
        | some (.arr k0 xs fz) => if k0 = k then
            some ⟨xs.length = m ∧ conS s.st y ∧ 0 < by_ ∧ (m + ys.length) * by_ ≤ 140737488355328, .asl id (m + ys.length), [(id, .arr k (xs ++ ys) fz)]⟩ else none
        | _ => none
      | .v (.slice none 0 0) => some ⟨get s.st nid = none ∧ conS s.st y ∧ 0 < by_ ∧ ys.length * by_ ≤ 140737488355328, .asl nid ys.length, [(nid, .arr k ys false)]⟩
      | .vw id m lo len => match get s.st id with
        | some (.arr k0 xs false) => if k0 = k then
            some ⟨xs.length = m ∧ conS s.st y ∧ lo < m ∧ lo + len + ys.length ≤ m, .vw id m lo (len + ys.length), [(id, .arr k (xs.take (lo + len) ++ ys ++ xs.drop (lo + len + ys.length)) false)]⟩ else none
        | _ => none
      | _ => none
    else none
  | _, _, _, _ => none

section
variable {P : Program} {e : Env} {o : Oper} {s : St}

theorem run_firstCells_T {w : World} (size n : Nat) (p : Option Addr) (cap : Nat) (us : List Value) (hl : us.length = n * size) (hp : 0 < n → p ≠ none)
    (h : ∀ (j : Nat) (u : Value), us[j]? = some u → ∃ ad, p = some ad ∧ w.cell? (ad.add j) = some u) (w' : World) (hw : w'.heap = w.heap) :
    (Builtin.firstCells size n (.slice p n cap)).run P w' = .ok us.toArray w' := by
  cases p with
  | none =>
    have : n = 0 := by
      apply Classical.byContradiction
      intro hn; exact hp (by omega) rfl
    subst this
    have : us = [] := List.eq_nil_of_length_eq_zero (by simpa using hl)
    subst this
    simp [Builtin.firstCells]
  | some ad =>
    exact run_firstCells_some (P := P) w' size n ad n cap us hl fun j u hu => by
      obtain ⟨ad', e1, e2⟩ := h j u hu
      injection e1 with e1; subst e1
      rw [World.cell?_of_block (w := w) (by rw [hw])]; exact e2

theorem run_firstCells_str {w : World} (str : ByteArray) : (Builtin.firstCells 1 str.size (.string str)).run P w = .ok ((str.data.toList.map fun b => Value.int .u8 b.toNat)).toArray w := by
  have h : str.extract 0 str.size = str := by simp
  simp only [Builtin.firstCells, h]
  simp only [Sem.run_pure]
  congr 1
  apply Array.toList_inj.1
  simp

/-- the new elements: their values, their cells -/
theorem Rel.appY {ι : Iota} {a : Act} {w : World} (hR : Rel e s ι a w) {ty1 : TypeId} {y : Operand} {k' : Option Nat} {ys : List T} {k : Nat} (hy : Go.TL.appY P s.st ty1 (Operand.t s y) = some (k', ys)) (hk : k' = none ∨ k' = some k) (hs : conS s.st (Operand.t s y)) :
    ∃ (d : TypeDesc) (us : List Value), P.underlying ty1 = some d ∧ strOrSl d ∧ (∀ x ∈ ys, x.cells.length = k) ∧ us.length = (flat ys).length ∧ us.length = ys.length * k ∧
      (∀ w' : World, (Builtin.lenOf (a.eval y)).run P w' = .ok ys.length w') ∧ (∀ w' : World, w'.heap = w.heap → (Builtin.firstCells k ys.length (a.eval y)).run P w' = .ok us.toArray w') ∧
      (∀ u ∈ us, u.oneCell' = true) ∧ (∀ (j : Nat) (u : Value) (c : T), us[j]? = some u → (flat ys)[j]? = some c → Rp s.st ι w (Av e s.st ι w) u c) := by
  unfold Go.TL.appY at hy
  split at hy
  · rename_i hu
    split at hy
    · rename_i str hx
      injection hy with hy; injection hy with e1 e2
      subst e1 e2
      have hk1 : k = 1 := by
        rcases hk with hk | hk
        · cases hk
        · injection hk with hk; exact hk.symm
      subst hk1
      have hv := (hx ▸ hR.rp y).v_inv
      have hfl : flat (str.data.toList.map byteT) = str.data.toList.map byteT := flat_bytes (fun y hy => by
        obtain ⟨b, _, rfl⟩ := List.mem_map.1 hy; rfl)
      have hlen : (str.data.toList.map byteT).length = str.size := by rw [List.length_map, Array.length_toList]; rfl
      refine ⟨.string, str.data.toList.map fun b => Value.int .u8 b.toNat, hu, .inl rfl, ?_, by rw [hfl]; simp, by simp, ?_, ?_, ?_, ?_⟩
      · intro x hx; obtain ⟨b, _, rfl⟩ := List.mem_map.1 hx; rfl
      · intro w'; rw [hv, hlen]; rfl
      · intro w' _; rw [hv, hlen]; exact run_firstCells_str str
      · intro u hu; obtain ⟨b, _, rfl⟩ := List.mem_map.1 hu; rfl
      · intro j u c hu' hc'
        rw [hfl] at hc'
        simp only [List.getElem?_map] at hu' hc'
        cases hj : str.data.toList[j]? with
        | none => simp [hj] at hu'
        | some b => simp [hj] at hu' hc'; subst hu' hc'; exact .im (.v _)
    · cases hy
  · rename_i el hu
    obtain ⟨p, cap, us, hv, c1, c2, c2', c3, c4, c5, c6⟩ := hR.con (hR.rp y) hy hs
    have hkk : ∀ x ∈ ys, x.cells.length = k := by
      rcases hk with hk | hk
      · rw [c2' hk]; simp
      · exact c2 k hk
    have hfl := flat_length hkk
    refine ⟨.slice el, us, hu, .inr ⟨_, rfl⟩, hkk, c3, by rw [c3, hfl], ?_, ?_, ?_, c6⟩
    · intro w'; rw [hv]; rfl
    · intro w' hw'; rw [hv]
      exact run_firstCells_T k ys.length p cap us (by rw [c3, hfl]) c4 (fun j u hu => by obtain ⟨ad, e1, e2, _⟩ := c5 j u hu; exact ⟨ad, e1, e2⟩) w' hw'
    · intro u hu
      obtain ⟨j, hj, rfl⟩ := List.mem_iff_getElem.1 hu
      obtain ⟨ad, _, _, e3⟩ := c5 j us[j] (by simp)
      exact e3
  · cases hy

theorem flat_append (xs ys : List T) : flat (xs ++ ys) = flat xs ++ flat ys := by simp [flat]

theorem one_zeroCells {z : Array Value} {n : Nat} (h : z.all (fun u => u.oneCell') = true) : ∀ (j : Nat) (u : Value), (Builtin.zeroCells z n)[j]? = some u → u.oneCell' = true := by
  intro j u hu
  unfold Builtin.zeroCells at hu
  rw [Array.getElem?_map] at hu
  by_cases hj : j < n * z.size
  · have h0 : 0 < z.size := by
      apply Nat.pos_of_ne_zero
      intro h0; rw [h0] at hj; simp at hj
    have hmod : j % z.size < z.size := Nat.mod_lt _ h0
    simp [hj] at hu
    rw [← hu, getElem!_pos z _ hmod]
    exact Array.all_eq_true.1 h _ hmod
  · simp [hj] at hu

theorem Rel.appended {ι : Iota} {a : Act} {w : World} (hR : Rel e s ι a w) {ty0 ty1 ty : TypeId} {y : Operand} {k' : Option Nat} {ys : List T} {k by_ : Nat} (hix : ixT P ty0 = some (none, k)) (hb : byT P ty0 = some by_) (hz : zrOk P ty0 = true)
    (hy : Go.TL.appY P s.st ty1 (Operand.t s y) = some (k', ys)) (hk : k' = none ∨ k' = some k) (hs : conS s.st (Operand.t s y)) (h0 : 0 < by_)
    {id : Nat} {xs : List T} {fz : Bool} (hg : get s.st id = some (.arr k xs fz)) (hsz : (xs.length + ys.length) * by_ ≤ 140737488355328) {v0 : Value} (hv0 : slv (ι id) xs.length v0) :
    ∃ v' w' x', (Builtin.append_ #[ty0, ty1] ty #[v0, a.eval y]).run P w = .ok v' w' ∧
      Rel e { s with st := (id, .arr k (xs ++ ys) fz) :: s.st } (upd ι id x') a w' ∧ slv x' (xs.length + ys.length) v' := by
  obtain ⟨d, us, hu1, hd, hky, hul, huk, hL, hY, h1, hrp⟩ := hR.appY (k := k) hy hk hs
  obtain ⟨el, inf, g1, g2, g3⟩ := ixT_slice hix
  have hby : inf.bytes = by_ := by
    unfold byT at hb; rw [g1] at hb; simp [g2] at hb; exact hb
  obtain ⟨z, hz1, hz2, hz3⟩ : ∃ z, inf.zero = some z ∧ z.cells.size = inf.size ∧ z.cells.all (fun u => u.oneCell') = true := by
    unfold zrOk at hz; rw [g1] at hz; simp only [g2] at hz
    split at hz
    · rename_i z hz'
      simp only [Bool.and_eq_true, beq_iff_eq] at hz
      exact ⟨z, hz', hz.1, hz.2⟩
    · cases hz
  subst hby g3
  obtain ⟨hkx, hob⟩ := hR.ob id _ hg
  have hflx := flat_length hkx
  have hfly := flat_length hky
  have hkxy : ∀ x ∈ xs ++ ys, x.cells.length = inf.size := by
    intro x hx; rcases List.mem_append.1 hx with hx | hx
    · exact hkx x hx
    · exact hky x hx
  have hbound : xs.length + ys.length ≤ 140737488355328 := Nat.le_trans (Nat.le_mul_of_pos_right _ h0) hsz
  -- a new block
  have grown : ∀ (p : Option Addr) (cap : Nat) (olds : List Value), v0 = .slice p xs.length cap → cap < xs.length + ys.length → olds.length = xs.length * inf.size →
      (∀ w' : World, w'.heap = w.heap → (Builtin.firstCells inf.size xs.length (.slice p xs.length cap)).run P w' = .ok olds.toArray w') →
      (∀ u ∈ olds, u.oneCell' = true) →
      (∀ (j : Nat) (u : Value) (c : T), olds[j]? = some u → (flat xs)[j]? = some c → u.oneCell' = true ∧ Rp s.st ι w (Av e s.st ι w) u c) →
      ∃ v' w' x', (Builtin.append_ #[ty0, ty1] ty #[v0, a.eval y]).run P w = .ok v' w' ∧
        Rel e { s with st := (id, .arr inf.size (xs ++ ys) fz) :: s.st } (upd ι id x') a w' ∧ slv x' (xs.length + ys.length) v' := by
    intro p cap olds hp hcap hol hO hro1 hro
    have hrun := run_app_grow (P := P) (w := w) ty0 ty1 ty el inf z d g1 hu1 hd g2 hz1 p xs.length cap ys.length (a.eval y) olds us hO hL hY hcap (by omega) h0 hsz
    have hge := grownCap_ge w (xs.length + ys.length) cap el
    have hcm : grownCap w (xs.length + ys.length) cap el ≤ maxLen := grownCap_le_maxLen w _ cap el (by simp only [maxLen]; omega)
    refine ⟨_, _, some (w.heap.size, grownCap w (xs.length + ys.length) cap el), by rw [hp]; exact hrun, ?_, rfl⟩
    let new : Array Value := olds.toArray ++ us.toArray ++ Builtin.zeroCells z.cells (grownCap w (xs.length + ys.length) cap el - (xs.length + ys.length))
    have hR1 : Rel e s ι a w.drew := hR.heap rfl rfl rfl rfl
    have hnew : new.size = grownCap w (xs.length + ys.length) cap el * inf.size := by
      simp only [new, Array.size_append, List.size_toArray, size_zeroCells, hz2, hol, huk, ← Nat.add_mul]
      congr 1; omega
    have hn1 : ∀ (j : Nat) (u : Value), new[j]? = some u → u.oneCell' = true := by
      intro j u hu
      have hm := Array.mem_of_getElem? hu
      simp only [new, Array.mem_append, List.mem_toArray] at hm
      rcases hm with (hm | hm) | hm
      · exact hro1 u hm
      · exact h1 u hm
      · obtain ⟨i, hi, rfl⟩ := Array.getElem_of_mem hm
        exact one_zeroCells hz3 i _ (Array.getElem?_eq_getElem hi)
    have ht := hR1.turn id inf.size xs (xs ++ ys) fz fz hg (some (w.heap.size, grownCap w (xs.length + ys.length) cap el)) (w.drew.alloc (.cells new el)) (by simp)
      (fun hl => by
        exfalso
        simp only [List.length_append] at hl
        have hy0 : ys.length = 0 := by omega
        rcases hob with ⟨q1, q2⟩ | ⟨b', cap', cur, E, q4, q5, q6, q7, q8, q9⟩
        · subst q2; simp at hcap; omega
        · rw [q4] at hv0; have hv0 : v0 = _ := hv0; rw [hp] at hv0; simp only [Value.slice.injEq] at hv0; have := hv0.2.2; omega)
      (fun h => ⟨h, List.prefix_append _ _⟩)
      ⟨rfl, rfl, rfl, by simp, fun k hk _ => RowKit.Below.heap_alloc w.drew _ k hk⟩
      (.inr ⟨_, _, rfl, Nat.le_refl _⟩)
      (fun _ b c j u hi _ hc => by
        have hb := hR.blk hg hi
        rw [World.cell?_of_block (w := w) (RowKit.Below.heap_alloc w.drew _ b hb)]; exact hc)
      (fun hm => by
        refine ⟨hkxy, .inr ⟨w.heap.size, _, new, el, upd_self _ _ _, heap_alloc_new w.drew _, hnew, by simpa using hge, ⟨hcm, hn1⟩, fun j u c hu hc => ?_⟩⟩
        suffices u.oneCell' = true ∧ Rp s.st ι w (Av e s.st ι w) u c from ⟨this.1, hm _ _ (Rp.mono (w := w) (A := Av e s.st ι w) (w' := w.drew) (A' := Av e s.st ι w.drew) (fun x hx => ⟨hx, fun u hu => hu⟩) (Goes.refl _ _) this.2)⟩
        rw [flat_append] at hc
        have hu' : ((olds ++ us) ++ (Builtin.zeroCells z.cells (grownCap w (xs.length + ys.length) cap el - (xs.length + ys.length))).toList)[j]? = some u := by
          have : new.toList = (olds ++ us) ++ (Builtin.zeroCells z.cells (grownCap w (xs.length + ys.length) cap el - (xs.length + ys.length))).toList := by simp [new]
          rw [← this]; simpa using hu
        have hjl : j < (flat xs ++ flat ys).length := (List.getElem?_eq_some_iff.1 hc).1
        rw [List.length_append, hflx, hfly] at hjl
        rw [List.getElem?_append_left (by simp only [List.length_append]; omega)] at hu'
        by_cases hj : j < xs.length * inf.size
        · rw [List.getElem?_append_left (by omega)] at hu' hc
          exact hro j u c hu' hc
        · rw [List.getElem?_append_right (by omega)] at hu' hc
          rw [hol] at hu'
          rw [hflx] at hc
          exact ⟨h1 u (List.mem_of_getElem? hu'), hrp _ u c hu' hc⟩)
    exact ht.1
  rcases hob with ⟨q1, q2⟩ | ⟨b, cap, cur, E, q4, q5, q6, q7, q8, q9⟩
  · by_cases hy0 : ys.length = 0
    · -- nothing to nothing
      have hys : ys = [] := List.eq_nil_of_length_eq_zero hy0
      subst q2 hys
      have hus : us = [] := List.eq_nil_of_length_eq_zero (by simpa using huk)
      subst hus
      have hYw := hY w rfl
      rw [q1] at hv0
      obtain ⟨p, rfl⟩ := hv0
      have hrun : (Builtin.append_ #[ty0, ty1] ty #[.slice p 0 0, a.eval y]).run P w = .ok (.slice p 0 0) w := by
        simp only [List.length_nil] at hL hYw ⊢
        rcases hd with rfl | ⟨q, rfl⟩ <;> cases p <;>
        simp [Builtin.append_, run_underlying g1, run_underlying hu1, sizeOf, typeInfo, g2, hL, hYw, storeCells]
      refine ⟨_, _, none, hrun, ?_, p, rfl⟩
      have hu : upd ι id none = ι := by funext q; unfold upd; split <;> simp_all
      have ht := hR.turn id inf.size [] ([] ++ []) fz fz hg (ι id) w (by simp) (fun _ => rfl) (fun h => ⟨h, List.prefix_refl _⟩)
        ⟨rfl, rfl, rfl, Nat.le_refl _, fun _ _ _ => rfl⟩ (.inl rfl) (fun _ _ _ _ _ _ _ h => h) (fun hm => ⟨by simp, .inl ⟨by rw [upd_self]; exact q1, by simp⟩⟩)
      rw [q1] at ht
      exact ht.1
    · subst q2
      rw [q1] at hv0
      obtain ⟨p, hv0⟩ := hv0
      exact grown p 0 [] hv0 (by simp; omega) (by simp) (fun w' _ => by cases p <;> simp [Builtin.firstCells, loadCells, loadCellsFrom]) (by simp) (by simp)
  · have hslv : v0 = .slice (some ⟨b, 0, none⟩) xs.length cap := by rw [q4] at hv0; exact hv0
    have hle : xs.length * inf.size ≤ cap * inf.size := Nat.mul_le_mul_right _ q7
    by_cases hroom : xs.length + ys.length ≤ cap
    · have hfit : xs.length * inf.size + us.length ≤ cur.size := by
        rw [huk, q6, ← Nat.add_mul]; exact Nat.mul_le_mul_right _ hroom
      have hrun := run_app_room (P := P) (w := w) ty0 ty1 ty el inf d g1 hu1 hd g2 b xs.length cap ys.length cur (.inr ⟨E, q5⟩) (a.eval y) us hL hY huk h1 hroom hfit
      let new : Array Value := (cur.toList.take (xs.length * inf.size) ++ us ++ cur.toList.drop (xs.length * inf.size + us.length)).toArray
      have hnew : new.size = cur.size := by
        simp only [new, List.size_toArray, List.length_append, List.length_take, List.length_drop, Array.length_toList]; omega
      have hheap : (w.setRow b new).heap[b]? = some (.cells new E (0, 0)) := setRow_heap w b cur new E _ q5
      have ht := hR.turn id inf.size xs (xs ++ ys) fz fz hg (ι id) (w.setRow b new) (by simp) (fun _ => rfl) (fun h => ⟨h, List.prefix_append _ _⟩)
        ⟨rfl, rfl, rfl, by simp [World.setRow], fun c _ hc => setRow_other w b c new (fun e => hc (by simp [q4, e]))⟩ (.inl rfl)
        (fun _ b' c' j u hi hj hc => by
          rw [q4] at hi; injection hi with hi; injection hi with e1 e2; subst e1 e2
          rw [cell_row hheap]
          rw [cell_row q5] at hc
          have : new.toList[j]? = some u := by
            simp only [new]
            rw [List.append_assoc, List.getElem?_append_left (by simp; omega), List.getElem?_take, if_pos (by omega)]
            simpa using hc
          simpa using this)
        (fun hm => by
          refine ⟨hkxy, .inr ⟨b, cap, new, E, by rw [upd_self]; exact q4, hheap, by rw [hnew]; exact q6, by simpa using hroom, ⟨q8.1, one_splice q8.2 h1⟩, fun j u c hu hc => ?_⟩⟩
          suffices u.oneCell' = true ∧ Rp s.st ι w (Av e s.st ι w) u c from ⟨this.1, hm _ _ this.2⟩
          rw [flat_append] at hc
          have hu' : (cur.toList.take (xs.length * inf.size) ++ us ++ cur.toList.drop (xs.length * inf.size + us.length))[j]? = some u := by simpa [new] using hu
          have hjl : j < (flat xs ++ flat ys).length := (List.getElem?_eq_some_iff.1 hc).1
          rw [List.length_append, hflx, hfly] at hjl
          have ht1 : (cur.toList.take (xs.length * inf.size)).length = xs.length * inf.size := by simp; omega
          rw [List.getElem?_append_left (by rw [List.length_append, ht1]; omega)] at hu'
          by_cases hj : j < xs.length * inf.size
          · rw [List.getElem?_append_left (by omega)] at hu' hc
            rw [List.getElem?_take, if_pos hj] at hu'
            exact q9 j u c (by simpa using hu') hc
          · rw [List.getElem?_append_right (by omega)] at hu' hc
            rw [ht1] at hu'
            rw [hflx] at hc
            exact ⟨h1 u (List.mem_of_getElem? hu'), hrp _ u c hu' hc⟩)
      exact ⟨_, _, ι id, by rw [hslv]; exact hrun, ht.1, by rw [q4]; rfl⟩
    · refine grown (some ⟨b, 0, none⟩) cap (cur.toList.take (xs.length * inf.size)) hslv (by omega) (by simp; omega) (fun w' hw' => ?_) (fun u hu => ?_) (fun j u c hu hc => ?_)
      · exact run_firstCells_T inf.size xs.length _ cap _ (by simp; omega) (by simp) (fun j u hu => ⟨_, rfl, by
          rw [addr_add, cell_row q5]
          rw [List.getElem?_take] at hu
          split at hu
          · simpa using hu
          · cases hu⟩) w' hw'
      · obtain ⟨i, hi, rfl⟩ := List.getElem_of_mem (List.mem_of_mem_take hu)
        exact q8.2 i _ (by simp at hi; simp [hi])
      · rw [List.getElem?_take] at hu
        split at hu
        · exact q9 j u c (by simpa using hu) hc
        · cases hu

/-- a part of an object is written where it lies -/
theorem Rel.splice {ι : Iota} {a : Act} {w : World} (hR : Rel e s ι a w) {id k : Nat} {xs : List T} (hg : get s.st id = some (.arr k xs false)) {at_ : Nat} {ys : List T} (hky : ∀ y ∈ ys, y.cells.length = k) (hat : at_ + ys.length ≤ xs.length)
    {us : List Value} (hul : us.length = ys.length * k) (h1 : ∀ u ∈ us, u.oneCell' = true) (hrp : ∀ (j : Nat) (u : Value) (c : T), us[j]? = some u → (flat ys)[j]? = some c → Rp s.st ι w (Av e s.st ι w) u c)
    {b cap : Nat} {cur : Array Value} {E : TypeId} (q4 : ι id = some (b, cap)) (q5 : w.heap[b]? = some (.cells cur E (0, 0))) (q6 : cur.size = cap * k) (q7 : xs.length ≤ cap) (q8 : cap ≤ maxLen ∧ ∀ (j : Nat) (u : Value), cur[j]? = some u → u.oneCell' = true)
    (q9 : ∀ (j : Nat) (u : Value) (c : T), cur[j]? = some u → (flat xs)[j]? = some c → u.oneCell' = true ∧ Rp s.st ι w (Av e s.st ι w) u c) :
    Rel e { s with st := (id, .arr k (xs.take at_ ++ ys ++ xs.drop (at_ + ys.length)) false) :: s.st } ι a (w.setRow b (cur.toList.take (at_ * k) ++ us ++ cur.toList.drop (at_ * k + us.length)).toArray) := by
  have hkx := (hR.ob id _ hg).1
  have hflx := flat_length hkx
  have hfly := flat_length hky
  have hle : xs.length * k ≤ cap * k := Nat.mul_le_mul_right _ q7
  have hle2 : (at_ + ys.length) * k ≤ xs.length * k := Nat.mul_le_mul_right _ hat
  rw [Nat.add_mul] at hle2
  let new : Array Value := (cur.toList.take (at_ * k) ++ us ++ cur.toList.drop (at_ * k + us.length)).toArray
  have hnew : new.size = cur.size := by
    simp only [new, List.size_toArray, List.length_append, List.length_take, List.length_drop, Array.length_toList]; omega
  have hheap : (w.setRow b new).heap[b]? = some (.cells new E (0, 0)) := setRow_heap w b cur new E _ q5
  have hl : xs.length = (xs.take at_ ++ ys ++ xs.drop (at_ + ys.length)).length := by simp; omega
  have hkn : ∀ x ∈ xs.take at_ ++ ys ++ xs.drop (at_ + ys.length), x.cells.length = k := by
    intro x hx
    rcases List.mem_append.1 hx with hx | hx
    · rcases List.mem_append.1 hx with hx | hx
      · exact hkx x (List.mem_of_mem_take hx)
      · exact hky x hx
    · exact hkx x (List.mem_of_mem_drop hx)
  have hu : upd ι id (ι id) = ι := by
    funext i; unfold upd; split
    · rename_i hi; rw [hi]
    · rfl
  have ht := hR.turn id k xs (xs.take at_ ++ ys ++ xs.drop (at_ + ys.length)) false false hg (ι id) (w.setRow b new) (Nat.le_of_eq hl) (fun _ => rfl) (fun h => by cases h)
    ⟨rfl, rfl, rfl, by simp [World.setRow], fun c _ hc => setRow_other w b c new (fun e => hc (by simp [q4, e]))⟩ (.inl rfl)
    (fun h => by cases h)
    (fun hm => by
      refine ⟨hkn, .inr ⟨b, cap, new, E, by rw [upd_self]; exact q4, hheap, by rw [hnew]; exact q6, by rw [← hl]; exact q7, ⟨q8.1, one_splice q8.2 h1⟩, fun j u c hu hc => ?_⟩⟩
      suffices u.oneCell' = true ∧ Rp s.st ι w (Av e s.st ι w) u c from ⟨this.1, hm _ _ this.2⟩
      rw [flat_append, flat_append, flat_take hkx, flat_drop hkx] at hc
      have hu' : (cur.toList.take (at_ * k) ++ us ++ cur.toList.drop (at_ * k + us.length))[j]? = some u := by simpa [new] using hu
      have ht1 : (cur.toList.take (at_ * k)).length = at_ * k := by simp; omega
      have ht2 : ((flat xs).take (at_ * k)).length = at_ * k := by simp; omega
      by_cases hj : j < at_ * k
      · rw [List.append_assoc, List.getElem?_append_left (by omega), List.getElem?_take, if_pos hj] at hu'
        rw [List.append_assoc, List.getElem?_append_left (by omega), List.getElem?_take, if_pos hj] at hc
        exact q9 j u c (by simpa using hu') hc
      · by_cases hj2 : j < at_ * k + us.length
        · rw [List.getElem?_append_left (by rw [List.length_append, ht1]; omega), List.getElem?_append_right (by omega), ht1] at hu'
          rw [List.getElem?_append_left (by rw [List.length_append, ht2]; omega), List.getElem?_append_right (by omega), ht2] at hc
          exact ⟨h1 u (List.mem_of_getElem? hu'), hrp _ u c hu' hc⟩
        · rw [List.getElem?_append_right (by rw [List.length_append, ht1]; omega), List.length_append, ht1, List.getElem?_drop, show at_ * k + us.length + (j - (at_ * k + us.length)) = j by omega] at hu'
          rw [List.getElem?_append_right (by rw [List.length_append, ht2]; omega), List.length_append, ht2, List.getElem?_drop, Nat.add_mul, show at_ * k + ys.length * k + (j - (at_ * k + (flat ys).length)) = j by omega] at hc
          exact q9 j u c (by simpa using hu') hc)
  rw [hu] at ht
  exact ht.1

theorem Rel.congr {s : St} {ι : Iota} {a : Act} {w : World} (h : Rel e s ι a w) {st' : Sto} (hst : ∀ i, get st' i = get s.st i) : Rel e ⟨s.fr, st'⟩ ι a w := by
  refine (h.go (st' := st') (ι' := ι) (w' := w) ⟨fun i hi => by rw [hst]; exact hi, fun i k1 x1 f1 hg _ => ⟨k1, x1, f1, by rw [← hst]; exact hg, rfl, Nat.le_refl _, fun _ => rfl⟩, fun i es hg _ => ⟨⟨es, by rw [← hst]; exact hg⟩, rfl⟩⟩ (fun _ _ _ h => h) ?_ ?_ ?_ ?_ (fun _ _ _ => rfl) (Nat.le_refl _) rfl rfl rfl (fun i es hg => ⟨by rw [← hst]; exact hg, rfl, fun _ _ _ => rfl⟩)).1
  · rintro x (hx | ⟨h1, h2, h3⟩)
    · exact .inl hx
    · exact .inr ⟨h1, h2, fun i k1 x1 f1 cap' hg hi => h3 i k1 x1 f1 cap' (by rw [← hst]; exact hg) hi⟩
  · intro i o' ho'
    exact .inl ⟨by rw [← hst]; exact ho', rfl, fun _ _ _ _ => rfl⟩
  · intro i i' k1 x1 f1 k2 x2 f2 b c c' g1 g2 e1 e2
    rw [hst] at g1 g2
    exact h.inj i i' _ _ _ _ _ _ b c c' g1 g2 e1 e2
  · intro i k1 x1 f1 b c g1 e1
    rw [hst] at g1
    exact h.own i _ _ _ b c g1 e1

theorem conT_cons {st : Sto} {nid : Nat} (hn : get st nid = none) (ob : Ob) {x : T} {r : Option Nat × List T} (h : conT st x = some r) : conT ((nid, ob) :: st) x = some r := by
  unfold conT at h ⊢
  split at h
  · exact h
  · rename_i id m
    have : nid ≠ id := fun e => by subst e; rw [hn] at h; cases h
    rw [get_cons_ne _ _ this]; exact h
  · exact h
  · rename_i id m lo len
    have : nid ≠ id := fun e => by subst e; rw [hn] at h; cases h
    rw [get_cons_ne _ _ this]; exact h
  · cases h
theorem conS_cons {st : Sto} {nid : Nat} (hn : get st nid = none) (ob : Ob) {x : T} (h : conS st x) : conS ((nid, ob) :: st) x := by
  unfold conS at h ⊢
  split at h
  · rename_i id m
    obtain ⟨k, xs, fz, hg, hm⟩ := validId_iff.1 h
    have : nid ≠ id := fun e => by subst e; rw [hn] at hg; cases hg
    exact validId_iff.2 ⟨k, xs, fz, by rw [get_cons_ne _ _ this]; exact hg, hm⟩
  · rename_i id m _ _
    obtain ⟨k, xs, fz, hg, hm⟩ := validId_iff.1 h
    have : nid ≠ id := fun e => by subst e; rw [hn] at hg; cases hg
    exact validId_iff.2 ⟨k, xs, fz, by rw [get_cons_ne _ _ this]; exact hg, hm⟩
  · trivial
theorem appY_cons {st : Sto} {nid : Nat} (hn : get st nid = none) (ob : Ob) {ty1 : TypeId} {x : T} {r : Option Nat × List T} (h : appY P st ty1 x = some r) : appY P ((nid, ob) :: st) ty1 x = some r := by
  unfold appY at h ⊢
  split at h
  · exact h
  · exact conT_cons hn ob h
  · cases h

/-- an empty array that nobody has -/
theorem Rel.empty {ι : Iota} {act : Act} {w : World} (hR : Rel e s ι act w) {nid : Nat} (hn : get s.st nid = none) (k : Nat) : Rel e ⟨s.fr, (nid, .arr k [] false) :: s.st⟩ (upd ι nid none) act w := by
  have hne : ∀ i, get s.st i ≠ none → i ≠ nid := fun i hi e' => hi (e' ▸ hn)
  have hmm : ∀ i es, get ((nid, Ob.arr k [] false) :: s.st) i = some (.mp es) → i ≠ nid ∧ get s.st i = some (.mp es) := fun i es hg => by
    by_cases hii : i = nid
    · subst hii; rw [get_cons_self] at hg; injection hg with hg; cases hg
    · rw [get_cons_ne _ _ (Ne.symm hii)] at hg; exact ⟨hii, hg⟩
  refine (hR.go (st' := (nid, .arr k [] false) :: s.st) (ι' := upd ι nid none) (w' := w) ⟨fun i hi => ?_, fun i k1 x1 f1 hg hi => ?_, fun i es hg hi => ⟨⟨es, (hmm i es hg).2⟩, upd_ne _ _ (hmm i es hg).1⟩⟩ (fun _ _ _ h => h) ?_ ?_ ?_ ?_ (fun _ _ _ => rfl) (Nat.le_refl _) rfl rfl rfl
    (fun i es hg => ⟨(hmm i es hg).2, upd_ne _ _ (hmm i es hg).1, fun _ _ _ => rfl⟩)).1
  · rw [get_cons_ne _ _ (Ne.symm (hne i hi))]; exact hi
  · rw [get_cons_ne _ _ (Ne.symm (hne i hi))] at hg
    exact ⟨k1, x1, f1, hg, rfl, Nat.le_refl _, fun _ => upd_ne _ _ (hne i hi)⟩
  · rintro x (hx | ⟨h1, h2, h3⟩)
    · exact .inl hx
    · refine .inr ⟨h1, h2, fun i k1 x1 f1 cap' hg hi => ?_⟩
      by_cases hii : i = nid
      · subst hii; rw [upd_self] at hi; cases hi
      · rw [get_cons_ne _ _ (Ne.symm hii)] at hg; rw [upd_ne _ _ hii] at hi; exact h3 i k1 x1 f1 cap' hg hi
  · intro i o' ho'
    by_cases hii : i = nid
    · subst hii
      rw [get_cons_self] at ho'; injection ho' with ho'; subst ho'
      exact .inr fun _ => ⟨by simp, .inl ⟨upd_self _ _ _, rfl⟩⟩
    · rw [get_cons_ne _ _ (Ne.symm hii)] at ho'
      exact .inl ⟨ho', upd_ne _ _ hii, fun _ _ _ _ => rfl⟩
  · intro i i' k1 x1 f1 k2 x2 f2 b c c' g1 g2 e1 e2
    by_cases hii : i = nid
    · subst hii; rw [upd_self] at e1; cases e1
    · by_cases hii' : i' = nid
      · subst hii'; rw [upd_self] at e2; cases e2
      · rw [get_cons_ne _ _ (Ne.symm hii)] at g1; rw [upd_ne _ _ hii] at e1
        rw [get_cons_ne _ _ (Ne.symm hii')] at g2; rw [upd_ne _ _ hii'] at e2
        exact hR.inj i i' _ _ _ _ _ _ b c c' g1 g2 e1 e2
  · intro i k1 x1 f1 b c g1 e1
    by_cases hii : i = nid
    · subst hii; rw [upd_self] at e1; cases e1
    · rw [get_cons_ne _ _ (Ne.symm hii)] at g1; rw [upd_ne _ _ hii] at e1
      exact hR.own i _ _ _ b c g1 e1

theorem does_append {x y : Operand} {ty0 ty1 : TypeId} (ho : o.op = .call { callee := .builtin .append, args := #[x, y], argTypes := #[ty0, ty1] }) (nid : Nat) {r : Res} (h : appendT P s nid ty0 ty1 (Operand.t s x) (Operand.t s y) = some r) (hs : r.side) : Does P e o s r.val r.wr := by
  unfold appendT at h
  split at h
  · rename_i k by_ k' ys hix hb hz hy
    split at h
    · rename_i hkk
      split at h
      · rename_i id m hx
        split at h
        · rename_i k0 xs fz hg
          split at h
          · rename_i hk0
            subst hk0
            injection h with h; subst h
            obtain ⟨hm, hcs, h0, hsz⟩ := hs
            subst hm
            refine Does.of_run fun ι act w hR => ?_
            have hv := (hx ▸ hR.rp x).asl_inv hg rfl
            obtain ⟨v', w', x', hrun, hR', hv'⟩ := hR.appended (ty := o.type) hix hb hz hy hkk hcs h0 hg hsz hv
            refine ⟨v', w', _, ?_, hR', ?_⟩
            · simp [execOp, ho, resolve, invoke, builtin, hrun]
            · refine .asl id _ _ (by simp [stw, get]) fun k2 xs2 fz2 hg2 => ?_
              simp only [stw, List.cons_append, List.nil_append] at hg2
              rw [get_cons_self] at hg2; injection hg2 with hg2; injection hg2 with e1 e2 e3
              subst e1 e2 e3
              exact ⟨by simp, fun _ => by rw [upd_self]; exact hv'⟩
          · cases h
        · cases h
      · rename_i hx
        injection h with h; subst h
        obtain ⟨hn, hcs, h0, hsz⟩ := hs
        refine Does.of_run fun ι act w hR => ?_
        have hv := (hx ▸ hR.rp x).v_inv
        -- first an empty array that nobody has
        have hR0 := hR.empty hn k
        obtain ⟨v', w', x', hrun, hR', hv'⟩ := hR0.appended (id := nid) (xs := []) (fz := false) (ty := o.type) hix hb hz (appY_cons hn (.arr k [] false) hy) hkk (conS_cons hn (.arr k [] false) hcs) h0 (get_cons_self _ _ _) (by simpa using hsz) (v0 := .slice none 0 0) (by rw [upd_self]; exact ⟨none, rfl⟩)
        have hR2 := hR'.congr (st' := (nid, .arr k ys false) :: s.st) (fun i => by
          by_cases hi : nid = i
          · subst hi; rw [get_cons_self, get_cons_self]; rfl
          · rw [get_cons_ne _ _ hi, get_cons_ne _ _ hi, get_cons_ne _ _ hi])
        refine ⟨v', w', _, ?_, hR2, ?_⟩
        · simp [execOp, ho, resolve, invoke, builtin, hv, hrun]
        · refine .asl nid _ _ (by simp [stw, get]) fun k2 xs2 fz2 hg2 => ?_
          simp only [stw, List.cons_append, List.nil_append] at hg2
          rw [get_cons_self] at hg2; injection hg2 with hg2; injection hg2 with e1 e2 e3
          subst e1 e2 e3
          exact ⟨by simp, fun _ => by rw [upd_self]; simpa using hv'⟩
      · rename_i id m lo len hx
        split at h
        · rename_i k0 xs hg
          split at h
          · rename_i hk0
            subst hk0
            injection h with h; subst h
            obtain ⟨hm, hcs, hlm, hfit⟩ := hs
            subst hm
            refine Does.of_run fun ι act w hR => ?_
            obtain ⟨hle, hv⟩ := (hx ▸ hR.rp x).vw_inv hg rfl
            obtain ⟨d, us, hu1, hd, hky, hul, huk, hL, hY, h1, hrp⟩ := hR.appY (k := k0) hy hkk hcs
            obtain ⟨el, inf, g1, g2, g3⟩ := ixT_slice hix
            obtain ⟨hkx, hob⟩ := hR.ob id _ hg
            rcases hob with ⟨q1, q2⟩ | ⟨b, cap, cur, E, q4, q5, q6, q7, q8, q9⟩
            · subst q2; simp at hlm
            rw [q4] at hv
            obtain ⟨p, hv, hp⟩ := hv
            have hp := hp (by omega)
            subst hp
            subst g3
            have hle1 : xs.length * inf.size ≤ cap * inf.size := Nat.mul_le_mul_right _ q7
            have hle2 : (lo + len + ys.length) * inf.size ≤ xs.length * inf.size := Nat.mul_le_mul_right _ hfit
            rw [Nat.add_mul, Nat.add_mul] at hle2
            have hrun := run_app_roomV (P := P) (w := w) ty0 ty1 o.type el inf d g1 hu1 hd g2 b (lo * inf.size) len (cap - lo) ys.length cur ⟨E, q5⟩ (act.eval y) us hL hY huk h1 (by omega) (by omega)
            have hR' := hR.splice hg (at_ := lo + len) hky hfit huk h1 hrp q4 q5 q6 q7 q8 q9
            rw [Nat.add_mul] at hR'
            refine ⟨.slice (some ⟨b, lo * inf.size, none⟩) (len + ys.length) (cap - lo), _, ι, ?_, hR', ?_⟩
            · simp [execOp, ho, resolve, invoke, builtin, hv, hrun]
            · refine .vw id _ _ _ _ (by simp [stw, get]) fun k2 xs2 fz2 hg2 => ?_
              simp only [stw, List.cons_append, List.nil_append] at hg2
              rw [get_cons_self] at hg2; injection hg2 with hg2; injection hg2 with e1 e2 e3
              subst e1 e2 e3
              refine ⟨by simp; omega, fun _ => ⟨by omega, ?_⟩⟩
              rw [q4]
              exact ⟨_, rfl, fun _ => rfl⟩
          · cases h
        · cases h
      · cases h
    · cases h
  · cases h

end
end Go.TL
