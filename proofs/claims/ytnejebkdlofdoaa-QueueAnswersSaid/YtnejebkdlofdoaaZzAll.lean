/- All operations in one function; and on what of a state it looks. -/
import Derived.Test.YtnejebkdlofdoaaZzOps7
namespace Go.TL
set_option linter.unusedSimpArgs false
set_option linter.unusedVariables false

def builtinT (P : Program) (s : St) (nid : Nat) (b : Builtin) (args : List T) (tys : List TypeId) : Option Res :=
  match b, args, tys with
  | .len, [x], [ty] => lenT P s.st ty x
  | .append, [x, y], [ty0, ty1] => appendT P s nid ty0 ty1 x y
  | .min, args, _ => foldT minI args
  | .max, args, _ => foldT maxI args
  | _, _, _ => none

def opT0 (P : Program) (s : St) (nid : Nat) (o : Oper) : Option Res :=
  match o.op with
  | .move x => ret (Operand.t s x)
  | .assign x => ret (Operand.t s x)
  | .pick c a b => pickT (Operand.t s c) (Operand.t s a) (Operand.t s b)
  | .alloc t => allocT P s nid t
  | .box _ x => some (boxT s nid (Operand.t s x))
  | .build t parts => buildT P s t parts
  | .buildSlice t len parts => buildSliceT P s nid t len parts
  | .load t x => loadT P s t (Operand.t s x)
  | .store t x y => storeT P s t (Operand.t s x) (Operand.t s y)
  | .nilCheck x => nilCheckT s.st (Operand.t s x)
  | .binOp op ty x y _ => binT P op ty (Operand.t s x) (Operand.t s y)
  | .unOp op _ x => unT op (Operand.t s x)
  | .convert src dst x => convT P s.st src dst (Operand.t s x)
  | .makeFunc fn first caps => makeFuncT fn first (caps.toList.map (Operand.t s))
  | .makeSlice ty x y => makeT P s nid ty (Operand.t s x) (Operand.t s y)
  | .slice ty x lo hi none => sliceT P s.st ty (Operand.t s x) (lo.map (Operand.t s)) (hi.map (Operand.t s))
  | .fieldAddr ty x f => fieldAddrT P s.st ty (Operand.t s x) f
  | .field ty x f => fieldT P ty (Operand.t s x) f
  | .indexAddr ty x i => indexAddrT P s.st ty (Operand.t s x) (Operand.t s i)
  | .index ty x i => indexT P ty (Operand.t s x) (Operand.t s i)
  | .extract x i => extractT (Operand.t s x) i
  | .call { callee := .builtin b, args, argTypes } => builtinT P s nid b (args.toList.map (Operand.t s)) argTypes.toList
  | _ => none

section
variable {P : Program} {e : Env} {o : Oper} {s : St}

theorem toList_two {α : Type} {a : Array α} {x y : α} (h : a.toList = [x, y]) : a = #[x, y] := by apply Array.toList_inj.1; simpa using h
theorem toList_one {α : Type} {a : Array α} {x : α} (h : a.toList = [x]) : a = #[x] := by apply Array.toList_inj.1; simpa using h
theorem map_one {α β : Type} {f : α → β} {l : List α} {x : β} (h : l.map f = [x]) : ∃ a, l = [a] ∧ f a = x := by
  cases l with
  | nil => simp at h
  | cons a l => cases l with
    | nil => simp at h; exact ⟨a, rfl, h⟩
    | cons b l => simp at h
theorem map_two {α β : Type} {f : α → β} {l : List α} {x y : β} (h : l.map f = [x, y]) : ∃ a b, l = [a, b] ∧ f a = x ∧ f b = y := by
  cases l with
  | nil => simp at h
  | cons a l => cases l with
    | nil => simp at h
    | cons b l => cases l with
      | nil => simp at h; exact ⟨a, b, rfl, h.1, h.2⟩
      | cons c l => simp at h

theorem does_opT0 (nid : Nat) {r : Res} (h : opT0 P s nid o = some r) (hs : r.side) : Does P e o s r.val r.wr := by
  unfold opT0 at h
  split at h
  · rename_i ho; simp [ret] at h; subst h; exact does_move (.inl ho)
  · rename_i ho; simp [ret] at h; subst h; exact does_move (.inr ho)
  · rename_i ho; exact does_pick ho h hs
  · rename_i ho; exact does_alloc ho nid h hs
  · rename_i ho; injection h with h; subst h; exact does_box ho nid hs
  · rename_i ho; exact does_build ho h hs
  · rename_i ho; exact does_buildSlice ho nid h hs
  · rename_i ho; exact does_load ho h hs
  · rename_i ho; exact does_store ho h hs
  · rename_i ho; exact does_nilCheck ho h hs
  · rename_i ho; exact does_bin ho h hs
  · rename_i ho; exact does_un ho h hs
  · rename_i ho; exact does_conv ho h hs
  · rename_i ho; exact does_makeFunc ho h hs
  · rename_i ho; exact does_make ho nid h hs
  · rename_i ho; exact does_slice ho h hs
  · rename_i ho; exact does_fieldAddr ho h hs
  · rename_i ho; exact does_field ho h hs
  · rename_i ho; exact does_indexAddr ho h hs
  · rename_i ho; exact does_index ho h hs
  · rename_i ho; exact does_extract ho h hs
  · rename_i b args tys ho
    unfold builtinT at h
    split at h
    · rename_i x ty h1 h2
      obtain ⟨a, ha, rfl⟩ := map_one h1
      have e1 := toList_one ha
      have e2 := toList_one h2
      subst e1 e2
      exact does_len (pos := 0) ho h hs
    · rename_i x y t0 t1 h1 h2
      obtain ⟨a, b, ha, rfl, rfl⟩ := map_two h1
      have e1 := toList_two ha
      have e2 := toList_two h2
      subst e1 e2
      exact does_append ho nid h hs
    · exact does_min ho h hs
    · exact does_max ho h hs
    · cases h
  · cases h
end

/-! ### On what it looks -/
/-- the objects that a tree names -/
def ids : T → List Nat
  | .asl id _ => [id]
  | .ptr id _ _ _ => [id]
  | .vw id _ _ _ => [id, id + 1073741824]
  | .mp id => [id]
  | .agg cs => cs.flatMap fun | .asl id _ => [id] | .ptr id _ _ _ => [id] | .vw id _ _ _ => [id, id + 1073741824] | .mp id => [id] | _ => []
  | _ => []

def Alike (I : List Nat) (st st' : Sto) : Prop := ∀ id ∈ I, get st id = get st' id

section
variable {P : Program} {s s' : St} {st st' : Sto}

theorem Alike.mono {I J : List Nat} (h : Alike J st st') (hi : ∀ id ∈ I, id ∈ J) : Alike I st st' := fun id hid => h id (hi id hid)

theorem validId_loc {id n : Nat} (h : get st id = get st' id) : validId st id n = validId st' id n := by unfold validId; rw [h]
theorem live_loc {c : T} (h : Alike (ids c) st st') : live st c = live st' c := by
  cases c <;> simp only [live]
  case asl id n => rw [h id (by simp [ids])]
  case ptr id n i j => rw [h id (by simp [ids])]
  case vw id n i j => rw [h id (by simp [ids])]
theorem lives_loc {cs : List T} (h : ∀ c ∈ cs, live st c = live st' c) : lives st cs = lives st' cs := by
  induction cs with
  | nil => rfl
  | cons c r ih => simp only [lives]; rw [h c (by simp), ih fun d hd => h d (by simp [hd])]
theorem ids_cell {cs : List T} {c : T} (hc : c ∈ cs) (hn : ∀ ds, c ≠ .agg ds) : ∀ id ∈ ids c, id ∈ ids (.agg cs) := by
  intro id hid
  simp only [ids, List.mem_flatMap]
  refine ⟨c, hc, ?_⟩
  cases c <;> simp_all [ids]
theorem live_agg (st : Sto) (ds : List T) : live st (.agg ds) = False := by simp [live]
theorem livesC_loc {x : T} (h : Alike (ids x) st st') : lives st x.cells = lives st' x.cells := by
  refine lives_loc fun c hc => ?_
  cases x with
  | agg cs =>
    simp only [T.cells] at hc
    by_cases hn : ∃ ds, c = .agg ds
    · obtain ⟨ds, rfl⟩ := hn; rw [live_agg, live_agg]
    · exact live_loc (h.mono (ids_cell hc fun ds e => hn ⟨ds, e⟩))
  | _ =>
    simp only [T.cells, List.mem_cons, List.not_mem_nil, or_false] at hc
    subst hc
    exact live_loc h

theorem conT_loc {x : T} (h : Alike (ids x) st st') : conT st x = conT st' x := by
  cases x <;> try rfl
  case asl id n => simp only [conT]; rw [h id (by simp [ids])]
  case vw id n lo len => simp only [conT]; rw [h id (by simp [ids])]
  case v x =>
    cases x <;> try rfl
    rename_i p l c
    cases p <;> cases l <;> cases c <;> rfl
theorem conS_loc {x : T} (h : Alike (ids x) st st') : conS st x = conS st' x := by
  cases x <;> simp only [conS]
  case asl id n => exact validId_loc (h id (by simp [ids]))
  case vw id n lo len => exact validId_loc (h id (by simp [ids]))

theorem allLive_loc {l : List (Nat × T)} (h : ∀ p ∈ l, Alike (ids p.2) st st') : allLive st l = allLive st' l := by
  induction l with
  | nil => rfl
  | cons p r ih =>
    simp only [allLive]
    rw [livesC_loc (h p (by simp)), ih fun q hq => h q (by simp [hq])]

/-- the operands that an operation names -/
theorem opT0_loc {nid : Nat} {o : Oper} (hT : ∀ x ∈ o.op.operands.toList, Operand.t s x = Operand.t s' x) (hI : ∀ x ∈ o.op.operands.toList, Alike (ids (Operand.t s x)) s.st s'.st) (hN : get s.st nid = get s'.st nid) :
    opT0 P s nid o = opT0 P s' nid o := by
  unfold opT0
  split <;> rename_i ho <;> simp only [ho, Op.operands] at hT hI
  case h_1 x => rw [hT x (by simp)]
  case h_2 x => rw [hT x (by simp)]
  case h_3 c a b => rw [hT c (by simp), hT a (by simp), hT b (by simp)]
  case h_4 t =>
    unfold allocT
    cases hz : zrT P t with
    | none => rfl
    | some z =>
      simp only [Option.map_some, boxT, hN]
      have : lives s.st z.cells = lives s'.st z.cells := by
        refine livesC_loc fun id hid => ?_
        exfalso
        unfold zrT at hz
        cases hq : (P.info? t).bind (·.zero) with
        | none => simp [hq] at hz
        | some v =>
          simp [hq] at hz
          subst hz
          cases v
          case agg cs =>
            simp only [ofV, ids, List.mem_flatMap, List.mem_map] at hid
            obtain ⟨c, ⟨a, _, rfl⟩, hid⟩ := hid
            cases hid
          all_goals (simp [ofV, ids] at hid)
      rw [this]
  case h_5 t x =>
    have h1 := hT x (by simp)
    have h2 := hI x (by simp)
    simp only [boxT, hN]
    rw [livesC_loc h2, h1]
  case h_6 t parts =>
    have hp : partsT s parts = partsT s' parts := by
      unfold partsT
      refine List.map_congr_left fun p hp => ?_
      rw [hT p.2 (by simp; exact ⟨p.1, by simpa using hp⟩)]
    have hl : allLive s.st (partsT s parts) = allLive s'.st (partsT s parts) := allLive_loc fun p hp => by
      simp only [partsT, List.mem_map] at hp
      obtain ⟨q, hq, rfl⟩ := hp
      exact hI q.2 (by simp; exact ⟨q.1, by simpa using hq⟩)
    unfold buildT
    rw [hl, hp]
  case h_7 t len parts =>
    have hp : partsT s parts = partsT s' parts := by
      unfold partsT
      refine List.map_congr_left fun p hp => ?_
      rw [hT p.2 (by simp; exact ⟨p.1, by simpa using hp⟩)]
    have hl : allLive s.st (partsT s parts) = allLive s'.st (partsT s parts) := allLive_loc fun p hp => by
      simp only [partsT, List.mem_map] at hp
      obtain ⟨q, hq, rfl⟩ := hp
      exact hI q.2 (by simp; exact ⟨q.1, by simpa using hq⟩)
    unfold buildSliceT
    rw [hl, hp, hN]
  case h_8 t x =>
    have h1 := hT x (by simp)
    have h2 := hI x (by simp)
    rw [← h1]
    generalize Operand.t s x = tx at *
    unfold loadT
    cases hl : ldT P t <;> cases tx <;> try rfl
    case some.ptr l id m i j => simp only [h2 id (by simp [ids])]
  case h_9 t x y =>
    have h1 := hT x (by simp)
    have h2 := hI x (by simp)
    have h3 := hT y (by simp)
    have h4 := hI y (by simp)
    rw [← h1, ← h3]
    generalize Operand.t s x = tx at *
    generalize Operand.t s y = ty at *
    unfold storeT
    rw [livesC_loc h4]
    cases hz : szT P t <;> cases tx <;> try rfl
    case some.ptr l id m i j => simp only [h2 id (by simp [ids])]
  case h_10 x =>
    have h1 := hT x (by simp)
    have h2 := hI x (by simp)
    rw [← h1]
    generalize Operand.t s x = tx at *
    unfold nilCheckT
    cases tx <;> try rfl
    case ptr id m i j => simp only [validId_loc (h2 id (by simp [ids]))]
  case h_11 op ty x y ty2 => rw [hT x (by simp), hT y (by simp)]
  case h_12 op ty x => rw [hT x (by simp)]
  case h_13 src dst x =>
    have h1 := hT x (by simp)
    have h2 := hI x (by simp)
    rw [← h1]
    unfold convT
    rw [conT_loc h2, conS_loc h2]
  case h_14 fn first caps =>
    congr 1
    exact List.map_congr_left fun x hx => hT x (by simp at hx ⊢; exact .inr hx)
  case h_15 ty x y =>
    rw [← hT x (by simp), ← hT y (by simp)]
    unfold makeT
    rw [hN]
  case h_16 ty x lo hi =>
    have h1 := hT x (by simp)
    have h2 := hI x (by simp)
    have hlo : lo.map (Operand.t s) = lo.map (Operand.t s') := by
      cases lo with
      | none => rfl
      | some l => simp [hT l (by simp)]
    have hhi : hi.map (Operand.t s) = hi.map (Operand.t s') := by
      cases hi with
      | none => rfl
      | some l => simp [hT l (by simp)]
    rw [← h1, ← hlo, ← hhi]
    generalize Operand.t s x = tx at *
    unfold sliceT
    cases hb1 : bndT (lo.map (Operand.t s)) <;> cases hb2 : bndT (hi.map (Operand.t s)) <;> cases tx <;> try rfl
    case some.some.asl a b id m => simp only [h2 id (by simp [ids])]
    case some.some.vw a b id m lo len => simp only [h2 id (by simp [ids])]
    case some.some.v a b x =>
      cases x <;> try rfl
      rename_i p l c
      cases p <;> cases l <;> cases c <;> rfl
  case h_17 ty x f =>
    have h1 := hT x (by simp)
    have h2 := hI x (by simp)
    rw [← h1]
    generalize Operand.t s x = tx at *
    unfold fieldAddrT
    rcases hf : fdT P ty f with _ | ⟨a, b, c⟩ <;> cases tx <;> try rfl
    case some.ptr id m i j => simp only [validId_loc (h2 id (by simp [ids]))]
  case h_18 ty x f => rw [hT x (by simp)]
  case h_19 ty x i =>
    have h1 := hT x (by simp)
    have h2 := hI x (by simp)
    have h3 := hT i (by simp)
    rw [← h1, ← h3]
    generalize Operand.t s x = tx at *
    unfold indexAddrT
    rcases hf : ixT P ty with _ | ⟨_ | len, k⟩
    · cases tx <;> rfl
    · generalize Operand.t s i = ti
      cases ti
      case v y =>
        cases y
        case int kd n =>
          cases tx <;> try rfl
          case asl id m => simp only [h2 id (by simp [ids])]
          case vw id m lo len => simp only [h2 id (by simp [ids])]
        all_goals (cases tx <;> rfl)
      all_goals (cases tx <;> rfl)
    · generalize Operand.t s i = ti
      cases ti
      case v y =>
        cases y
        case int kd n =>
          cases tx <;> try rfl
          case ptr id m i j => simp only [validId_loc (h2 id (by simp [ids]))]
        all_goals (cases tx <;> rfl)
      all_goals (cases tx <;> rfl)
  case h_20 ty x i => rw [hT x (by simp), hT i (by simp)]
  case h_21 x i => rw [hT x (by simp)]
  case h_22 b args tys =>
    simp only [Call.operands] at hT hI
    have ha : args.toList.map (Operand.t s) = args.toList.map (Operand.t s') := List.map_congr_left fun x hx => hT x (by simpa using hx)
    rw [← ha]
    have hA : ∀ t ∈ args.toList.map (Operand.t s), Alike (ids t) s.st s'.st := by
      intro t ht
      obtain ⟨x, hx, rfl⟩ := List.mem_map.1 ht
      exact hI x (by simpa using hx)
    generalize args.toList.map (Operand.t s) = ta at *
    unfold builtinT
    split
    · rename_i x ty h
      have h2 := hA x (by simp)
      unfold lenT
      rcases P.underlying ty with _ | d
      · cases x <;> rfl
      · cases x
        case asl id m =>
          cases d <;> try rfl
          simp only [validId_loc (h2 id (by simp [ids]))]
        case vw id m lo len =>
          cases d <;> try rfl
          simp only [validId_loc (h2 id (by simp [ids]))]
        case v y =>
          cases y
          case slice p l c => cases p <;> cases l <;> cases c <;> cases d <;> rfl
          all_goals (cases d <;> rfl)
        all_goals (cases d <;> rfl)
    · rename_i x y t0 t1 h
      have h2 := hA x (by simp)
      have h3 := hA y (by simp)
      have h4 : appY P s.st t1 y = appY P s'.st t1 y := by unfold appY; rw [conT_loc h3]
      unfold appendT
      rw [h4, conS_loc h3, hN]
      generalize ixT P t0 = a1
      generalize byT P t0 = a2
      generalize zrOk P t0 = a3
      generalize appY P s'.st t1 y = a4
      rcases a1 with _ | ⟨_ | n, k⟩ <;> rcases a2 with _ | b <;> rcases a3 with _ | _ <;> rcases a4 with _ | ⟨k', ys⟩ <;> try rfl
      simp only
      split
      · cases x <;> try rfl
        case asl id m => simp only [h2 id (by simp [ids])]
        case vw id m lo len => simp only [h2 id (by simp [ids])]
        case v y =>
          cases y <;> try rfl
          case slice p l c => cases p <;> cases l <;> cases c <;> rfl
      · rfl
    · rfl
    · rfl
    · rfl
  case h_23 => rfl
end
end Go.TL
