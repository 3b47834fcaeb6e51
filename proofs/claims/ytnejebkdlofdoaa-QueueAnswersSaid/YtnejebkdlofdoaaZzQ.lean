/- What a prover uses most: loops that keep the rest of the frame, contents of maps, calls that lend one object, draws. -/
import Derived.Test.YtnejebkdlofdoaaZzN
namespace Go.TL
set_option linter.unusedSimpArgs false
set_option linter.unusedVariables false

section
variable {P : Program} {e : Env} {kss : List (Nat × List Nat)} {Q : Ex → St → Prop} {K : List KF} {fr : List (Nat × T)} {st : Sto}
/-- a frame without a temporary -/
def rm1 (k : Nat) : List (Nat × T) → List (Nat × T)
  | [] => []
  | (t, x) :: r => if t = k then rm1 k r else (t, x) :: rm1 k r
def rmK : List Nat → List (Nat × T) → List (Nat × T)
  | [], fr => fr
  | k :: ks, fr => rm1 k (rmK ks fr)
/-- a loop that changes some temporaries of the frame only -/
theorem W_loopF {α : Type} {body : RC} (hm : P.follows .mixedOrders = true) (ks : List Nat) (I : α → Prop) (ch : α → List (Nat × T)) (g : α → Sto) (μ : α → Nat) (x0 : α) (h0 : I x0) (hs : Le e ⟨fr, st⟩ ⟨ch x0 ++ rmK ks fr, g x0⟩)
    (round : ∀ x, I x → W P e kss (LQ P e kss Q K I (fun x => ch x ++ rmK ks fr) g μ x) body [] (ch x ++ rmK ks fr) (g x)) : W P e kss Q (.loop body) K fr st :=
  W_loop hm I (fun x => ch x ++ rmK ks fr) g μ x0 h0 hs round
end
theorem getD_mapT {α : Type} {f : α → T} {l : List α} {i : Nat} (h : i < l.length) : (l.map f).getD i .junk = f l[i] := by
  rw [getD_get (by simpa using h)]; simp
theorem i64_succ {i : Nat} (h : i < 4611686018427387904) : IntKind.i64.wrap ((i : Int) + 1) = ((i + 1 : Nat) : Int) := by
  rw [IntWalk.i64_in _ (by omega)]; omega
theorem i64_pred {i : Nat} (h : 0 < i) (h2 : i < 4611686018427387904) : IntKind.i64.wrap ((i : Int) - 1) = ((i - 1 : Nat) : Int) := by
  rw [IntWalk.i64_in _ (by omega)]; omega
theorem ltXs_map {α : Type} {st : Sto} {ρ : Ren} {B : List Nat} {k : Nat} {f : α → T} (h : ∀ a, (f a).cells.length = k ∧ imL (f a).cells = true) (l : List α) : ltXs st ρ B k (l.map f) (l.map f) := ltXs_refl (imXs_map h l)
theorem take_snoc {α : Type} {l : List α} {i : Nat} (h : i < l.length) : l.take (i + 1) = l.take i ++ [l[i]] := List.take_succ_eq_append_getElem h
theorem imXs_append {k : Nat} {a b : List T} (h1 : ImXs k a) (h2 : ImXs k b) : ImXs k (a ++ b) := fun x hx => by
  rcases List.mem_append.1 hx with h | h
  · exact h1 x h
  · exact h2 x h
theorem imXs_cons {k : Nat} {x : T} {a : List T} (h0 : x.cells.length = k ∧ imL x.cells = true) (h : ImXs k a) : ImXs k (x :: a) := fun y hy => by
  rcases List.mem_cons.1 hy with rfl | hy
  · exact h0
  · exact h y hy
theorem imXs_nil {k : Nat} : ImXs k [] := fun x hx => by simp at hx
/-! ### the first that fits -/
theorem any_at {α : Type} {p : α → Bool} {l : List α} {i : Nat} (h : i < l.length) (hp : p l[i] = true) : l.any p = true := List.any_eq_true.2 ⟨l[i], List.getElem_mem h, hp⟩
theorem any_snoc {α : Type} {p : α → Bool} {l : List α} {i : Nat} (h : i < l.length) (h1 : (l.take i).any p = false) (hp : p l[i] = false) : (l.take (i + 1)).any p = false := by
  rw [take_snoc h, List.any_append, h1]
  simp [hp]
theorem findIdx_at {α : Type} {p : α → Bool} : ∀ {l : List α} {i : Nat} (h : i < l.length), (l.take i).any p = false → p l[i] = true → l.findIdx p = i
  | [], i, h, _, _ => by simp at h
  | x :: r, 0, h, _, hp => by simp at hp; simp [List.findIdx_cons, hp]
  | x :: r, i + 1, h, h1, hp => by
    simp only [List.take_succ_cons, List.any_cons, Bool.or_eq_false_iff] at h1
    rw [List.findIdx_cons, h1.1, cond_false, findIdx_at (l := r) (i := i) (by simpa using h) h1.2 (by simpa using hp)]
def idxI {α : Type} (p : α → Bool) (l : List α) : Int := if l.any p = true then l.findIdx p else -1
theorem idxI_ge {α : Type} (p : α → Bool) (l : List α) : decide (0 ≤ idxI p l) = l.any p := by
  unfold idxI
  cases h : l.any p <;> simp
theorem find_noneQ {α : Type} {p : α → Bool} {l : List α} (h : l.any p = false) : l.find? p = none := by
  rw [List.find?_eq_none]
  intro x hx h2
  have := List.any_eq_false.1 h x hx
  exact this h2
theorem find_atQ {α : Type} {p : α → Bool} {l : List α} {i : Nat} (h : i < l.length) (h1 : (l.take i).any p = false) (h2 : p l[i] = true) : l.find? p = some l[i] := by
  have e : l.find? p = (l.take i ++ l.drop i).find? p := by rw [List.take_append_drop]
  rw [e, List.find?_append, find_noneQ h1, List.drop_eq_getElem_cons h, List.find?_cons, h2]
  rfl
/-! ### lists that are the same -/
def sameL {α : Type} (eq : α → α → Bool) : List α → List α → Bool
  | [], [] => true
  | a :: as, b :: bs => eq a b && sameL eq as bs
  | _, _ => false
section
variable {α : Type} {eq : α → α → Bool}
theorem sameL_ne : ∀ {a b : List α}, a.length ≠ b.length → sameL eq a b = false
  | [], [], h => absurd rfl h
  | [], _ :: _, _ => rfl
  | _ :: _, [], _ => rfl
  | a :: as, b :: bs, h => by
    simp only [sameL]
    rw [sameL_ne (a := as) (b := bs) (by simpa using h), Bool.and_false]
theorem sameL_append : ∀ {a b c d : List α}, a.length = b.length → sameL eq (a ++ c) (b ++ d) = (sameL eq a b && sameL eq c d)
  | [], [], c, d, _ => by simp [sameL]
  | [], _ :: _, _, _, h => by simp at h
  | _ :: _, [], _, _, h => by simp at h
  | a :: as, b :: bs, c, d, h => by
    simp only [List.cons_append, sameL]
    rw [sameL_append (by simpa using h), Bool.and_assoc]
theorem sameL_snoc {a b : List α} {i : Nat} (ha : i < a.length) (hb : i < b.length) : sameL eq (a.take (i + 1)) (b.take (i + 1)) = (sameL eq (a.take i) (b.take i) && eq a[i] b[i]) := by
  rw [take_snoc ha, take_snoc hb, sameL_append (by simp; omega)]
  simp [sameL]
theorem sameL_false {a b : List α} {i : Nat} (hl : a.length = b.length) (ha : i < a.length) (h : eq a[i] (b[i]'(by omega)) = false) : sameL eq a b = false := by
  have e : sameL eq a b = sameL eq (a.take (i + 1) ++ a.drop (i + 1)) (b.take (i + 1) ++ b.drop (i + 1)) := by rw [List.take_append_drop, List.take_append_drop]
  rw [e, sameL_append (by simp; omega), sameL_snoc ha (by omega), h]
  simp
theorem sameL_refl (h : ∀ x, eq x x = true) : ∀ (a : List α), sameL eq a a = true
  | [] => rfl
  | a :: as => by simp [sameL, h, sameL_refl h as]
theorem sameL_iff (h : ∀ x y, eq x y = true ↔ x = y) : ∀ {a b : List α}, sameL eq a b = true ↔ a = b
  | [], [] => by simp [sameL]
  | [], _ :: _ => by simp [sameL]
  | _ :: _, [] => by simp [sameL]
  | a :: as, b :: bs => by simp [sameL, h, sameL_iff h (a := as) (b := bs)]
end
theorem imT_of0 {x : T} (h : imT0 x = true) : imT x = true := by
  cases x <;> first | exact h | (simp [imT0] at h)
theorem imL_of0 : ∀ {l : List T}, imT0L l = true → imL l = true
  | [], _ => rfl
  | x :: r, h => by
    simp only [imT0L, Bool.and_eq_true] at h
    simp only [imL, Bool.and_eq_true]
    exact ⟨imT_of0 h.1, imL_of0 h.2⟩
theorem imA_of0 {x : T} (h : imT x = true) : imA x = true := by
  cases x with
  | clo f cs => exact imL_of0 h
  | agg cs => simp [imT, imT0] at h
  | _ => exact h
theorem imAL_of {l : List T} (h : imL l = true) : imAL l = true := by
  induction l with
  | nil => rfl
  | cons c r ih =>
    simp only [imL, Bool.and_eq_true] at h
    simp only [imAL, Bool.and_eq_true]
    refine ⟨?_, ih h.2⟩
    exact imA_of0 h.1
theorem imAL_clo {x : T} {f : FuncId} {caps : List T} (h0 : imA x = true) (h : imL caps = true) : imAL [x, .clo f caps] = true := by
  show (imA x && (imL caps && true)) = true
  rw [h0, h]; rfl
theorem imAL_cons {x : T} {l : List T} (h0 : imA x = true) (h : imL l = true) : imAL (x :: l) = true := by
  simp only [imAL, h0, imAL_of h, Bool.and_self]
/-! ### a list with one more in between -/
theorem ins_room {α : Type} (L J : List α) (y : α) (i n : Nat) (hL : L.length = n) (hi : i < n) :
    (((L ++ J).take (i + 1) ++ ((L ++ J).drop i |>.take (n + 1 - i)).take (n - i) ++ (L ++ J).drop (i + 1 + (n - i))).take i ++ [y] ++
      ((L ++ J).take (i + 1) ++ ((L ++ J).drop i |>.take (n + 1 - i)).take (n - i) ++ (L ++ J).drop (i + 1 + (n - i))).drop (i + 1)) = (L.take i ++ y :: L.drop i) ++ J.drop 1 := by
  subst hL
  have h1 : (L ++ J).take (i + 1) = L.take (i + 1) := List.take_append_of_le_length (by omega)
  have h2 : ((L ++ J).drop i |>.take (L.length + 1 - i)).take (L.length - i) = L.drop i := by
    rw [List.take_take, Nat.min_eq_left (by omega), List.drop_append_of_le_length (by omega), List.take_append_of_le_length (by rw [List.length_drop]; omega), List.take_of_length_le (by rw [List.length_drop]; omega)]
  have h3 : (L ++ J).drop (i + 1 + (L.length - i)) = J.drop 1 := by
    rw [show i + 1 + (L.length - i) = L.length + 1 by omega, ← List.drop_drop, List.drop_left]
  rw [h1, h2, h3]
  have h4 : (L.take (i + 1) ++ L.drop i ++ J.drop 1).take i = L.take i := by
    rw [List.append_assoc, List.take_append_of_le_length (by rw [List.length_take]; omega), List.take_take, Nat.min_eq_left (by omega)]
  have h5 : (L.take (i + 1) ++ L.drop i ++ J.drop 1).drop (i + 1) = L.drop i ++ J.drop 1 := by
    rw [List.append_assoc, List.drop_append_of_le_length (by rw [List.length_take]; omega), List.drop_of_length_le (by rw [List.length_take]; omega), List.nil_append]
  rw [h4, h5]
  simp
theorem ins_grow {α : Type} (L G Z : List α) (y : α) (i n : Nat) (hL : L.length = n) (hG : G.length = i) (hZ : Z.length = n + 1 - i) (hi : i < n) :
    (((G ++ Z).take i ++ [y] ++ (G ++ Z).drop (i + 1)).take (i + 1) ++ ((L.drop i).take (n - i)).take (n - i) ++ ((G ++ Z).take i ++ [y] ++ (G ++ Z).drop (i + 1)).drop (i + 1 + (n - i))) = G ++ y :: L.drop i := by
  subst hL hG
  have h1 : (G ++ Z).take G.length = G := by simp
  have h2 : (G ++ Z).drop (G.length + 1) = Z.drop 1 := by rw [← List.drop_drop, List.drop_left]
  have h3 : ((L.drop G.length).take (L.length - G.length)).take (L.length - G.length) = L.drop G.length := by
    rw [List.take_take, Nat.min_self, List.take_of_length_le (by rw [List.length_drop]; omega)]
  rw [h1, h2, h3]
  have h4 : (G ++ [y] ++ Z.drop 1).take (G.length + 1) = G ++ [y] := by
    rw [List.take_append_of_le_length (by simp), List.take_of_length_le (by simp)]
  have h5 : (G ++ [y] ++ Z.drop 1).drop (G.length + 1 + (L.length - G.length)) = [] := by
    apply List.drop_of_length_le
    simp only [List.length_append, List.length_cons, List.length_nil, List.length_drop, hZ]; omega
  rw [h4, h5]
  simp
/-! ### draws -/
def nx (l : List UInt8) (at_ : Nat) (n : Int) : Int × Nat :=
  if n < 1 ∨ l.length ≤ at_ then (0, at_)
  else if 256 < n ∧ at_ + 1 < l.length then (((l.getD at_ 0).toNat * 256 + (l.getD (at_ + 1) 0).toNat) % n, at_ + 2)
  else ((l.getD at_ 0).toNat % n, at_ + 1)
abbrev oC (l : List UInt8) (at_ : Nat) : Ob := .arr 2 [.agg [vL l, vI at_]] false
theorem nx_le (l : List UInt8) (at_ : Nat) (n : Int) (h : at_ ≤ l.length) : (nx l at_ n).2 ≤ l.length := by
  unfold nx
  split
  · exact h
  · split
    · simp only; omega
    · simp only; omega
theorem nx_range (l : List UInt8) (at_ : Nat) (n : Int) (h : 1 ≤ n) : 0 ≤ (nx l at_ n).1 ∧ (nx l at_ n).1 < n := by
  unfold nx
  split
  · simp only; omega
  · split
    · exact ⟨Int.emod_nonneg _ (by omega), Int.emod_lt_of_pos _ (by omega)⟩
    · exact ⟨Int.emod_nonneg _ (by omega), Int.emod_lt_of_pos _ (by omega)⟩
section
variable {P : Program} {e : Env} {kss : List (Nat × List Nat)} {Q : Ex → St → Prop} {K : List KF} {rows : Option (List Nat)} {ks : List Nat} {nid : Nat} {ops : List ROp} {F : XF} {acc : Acc} {st : Sto} {fid : FuncId} {xs caps ts' : List T} {r : T} {d : Option Nat}
/-- the object of draws, lent and given back -/
theorem C1.draw (id : Nat) (l : List UInt8) (a a' : Nat)
    (hs : Spc P fid (.ptr 0 1 0 0 :: xs) [(0, oC l a)] r [(0, oC l a')]) (hg : TL.get st id = some (oC l a)) (hx : imAL xs = true) (h2 : imTup r = true)
    (h : R P e kss Q rows ks K nid ops (putX F d (.p r)) (stUp st [(id, oC l a')]) (acc ++ [([] ++ [(id, oC l a')].map (·.1), [(id, oC l a')].map (·.1))])) : C1 P e kss Q rows ks K (.clo fid []) (.ptr id 1 0 0 :: xs) d nid ops F st acc := by
  refine C1.of [(0, some id)] [(id, some 0)] [] [(id, oC l a')] hs ?_ (by simp [renOk, TL.get]) ?_ (by rfl) (by simp [TL.get]) ?_ (by simp [renOk, TL.get]) (by rfl) (ltT_im h2) (.inl (by rfl)) h
  · rw [List.append_nil]
    exact ⟨by simp [ltA, ltC, ltC0, TL.get], ltAs_im hx⟩
  · refine ⟨?_, trivial⟩
    simp only [TL.get, if_true, ltO2, hg, ltO1]
    exact ⟨trivial, by simp, ltXs_cons ⟨rfl, rfl, rfl, rfl, trivial⟩ ltXs_nil, by simp⟩
  · refine ⟨?_, trivial⟩
    simp only [TL.get, if_true, wrO, ltO1]
    exact ⟨⟨trivial, by simp, ltXs_cons ⟨rfl, rfl, rfl, rfl, trivial⟩ ltXs_nil, by simp⟩, .inr ⟨trivial, rfl⟩⟩
/-- a call that only reads one object -/
theorem C1.keep (id k : Nat) (ys : List T)
    (hs : Spc P fid ts' [(0, .arr k ys false)] r [(0, .arr k ys false)]) (hg : TL.get st id = some (.arr k ys false)) (him : ImXs k ys) (ha : ltAs st [(0, some id)] [] (xs ++ caps) ts') (h2 : imTup r = true)
    (h : R P e kss Q rows ks K nid ops (putX F d (.p r)) (stUp st [(id, .arr k ys false)]) (acc ++ [([] ++ [(id, Ob.arr k ys false)].map (·.1), [(id, Ob.arr k ys false)].map (·.1))])) : C1 P e kss Q rows ks K (.clo fid caps) xs d nid ops F st acc := by
  refine C1.of [(0, some id)] [(id, some 0)] [] [(id, .arr k ys false)] hs ha (by simp [renOk, TL.get]) ?_ (by rfl) (by simp [TL.get]) ?_ (by simp [renOk, TL.get]) (by rfl) (ltT_im h2) (.inl (by rfl)) h
  · refine ⟨?_, trivial⟩
    simp only [TL.get, if_true, ltO2, hg, ltO1]
    exact ⟨trivial, by simp, ltXs_refl him, by simp⟩
  · refine ⟨?_, trivial⟩
    simp only [TL.get, if_true, wrO, ltO1]
    exact ⟨⟨trivial, by simp, ltXs_refl him, by simp⟩, .inr ⟨trivial, rfl⟩⟩
/-- a call that changes one object -/
theorem C1.upd (id k : Nat) (ys zs : List T)
    (hs : Spc P fid ts' [(0, .arr k ys false)] r [(0, .arr k zs false)]) (hg : TL.get st id = some (.arr k ys false)) (him : ImXs k ys) (him2 : ImXs k zs) (ha : ltAs st [(0, some id)] [] (xs ++ caps) ts') (h2 : imTup r = true)
    (h : R P e kss Q rows ks K nid ops (putX F d (.p r)) (stUp st [(id, .arr k zs false)]) (acc ++ [([] ++ [(id, Ob.arr k zs false)].map (·.1), [(id, Ob.arr k zs false)].map (·.1))])) : C1 P e kss Q rows ks K (.clo fid caps) xs d nid ops F st acc := by
  refine C1.of [(0, some id)] [(id, some 0)] [] [(id, .arr k zs false)] hs ha (by simp [renOk, TL.get]) ?_ (by rfl) (by simp [TL.get]) ?_ (by simp [renOk, TL.get]) (by rfl) (ltT_im h2) (.inl (by rfl)) h
  · refine ⟨?_, trivial⟩
    simp only [TL.get, if_true, ltO2, hg, ltO1]
    exact ⟨trivial, by simp, ltXs_refl him, by simp⟩
  · refine ⟨?_, trivial⟩
    simp only [TL.get, if_true, wrO, ltO1]
    exact ⟨⟨trivial, by simp, ltXs_refl him2, by simp⟩, .inr ⟨trivial, rfl⟩⟩
/-- draws begin -/
theorem C1.newdraw {l : List UInt8} {a : Nat} (nid' : Nat) (hs : Spc P fid (xs ++ caps) [] (.ptr 0 1 0 0) [(0, oC l a)]) (h1 : imAL (xs ++ caps) = true) (hn : TL.get st nid' = none)
    (h : R P e kss Q rows ks K nid ops (putX F d (.p (.ptr nid' 1 0 0))) (stUp st [(nid', oC l a)]) (acc ++ [([] ++ [nid'], [nid'])])) : C1 P e kss Q rows ks K (.clo fid caps) xs d nid ops F st acc := by
  refine C1.of [] [(nid', some 0)] [] [(nid', oC l a)] hs (ltAs_im h1) rfl trivial (by simp) (by rfl) ?_ (by simp [renOk, TL.get]) (by rfl) ?_ (.inl (by rfl)) h
  · refine ⟨?_, trivial⟩
    simp only [TL.get, if_true, wrO, ltO1]
    exact ⟨⟨trivial, by simp, ltXs_cons ⟨rfl, rfl, rfl, rfl, trivial⟩ ltXs_nil, by simp⟩, .inl hn⟩
  · exact ⟨by simp [TL.get], rfl, rfl, rfl⟩
/-- a guard that holds -/
theorem C2.one {L : List (Nat × Bool)} {c : Prop} {f : T} {as : List T} (hc : c) (h : C1 P e kss Q rows ks K f as d nid ops F st acc) : C2 P e kss Q rows ks K L c f as d nid ops F st acc := by
  obtain ⟨val, wr, rd, h1, h2⟩ := h
  exact ⟨val, wr, rd, fun _ => h1, .inr (.inl ⟨hc, h2⟩)⟩
/-- a guard that does not hold -/
theorem C2.no {L : List (Nat × Bool)} {c : Prop} {f : T} {as : List T} (hc : ¬ c) (h : R P e kss Q rows ks K nid ops (putX F d (.p (.v undef))) st (acc ++ [([], [])])) : C2 P e kss Q rows ks K L c f as d nid ops F st acc :=
  ⟨.junk, [], [], fun h => absurd h hc, .inr (.inr ⟨hc, h⟩)⟩
/-- what nobody writes has no cell in common with an object -/
theorem C1.ovl {k0 : Nat} {zs : List T} {y : T} {i' m' lo' len' k' : Nat} {ys' : List T} (hf : OvlFn P fid) (hk0 : 0 < k0) (h2 : partOf y = some (i', m', lo', len'))
    (g2 : TL.get st i' = some (.arr k' ys' false)) (l2 : ys'.length = m')
    (h : R P e kss Q rows ks K nid ops (putX F d (.p (.v (.bool false)))) (stUp st []) (acc ++ [([i'] ++ ([] : List (Nat × Ob)).map (·.1), ([] : List (Nat × Ob)).map (·.1))])) : C1 P e kss Q rows ks K (.clo fid []) [.sl k0 zs, y] d nid ops F st acc :=
  ⟨.v (.bool false), [], [i'], .inr ⟨fid, k0, zs, y, i', m', lo', len', k', ys', rfl, hf, rfl, hk0, h2, g2, l2, rfl, rfl, rfl⟩, h⟩
/-- a call that makes an object -/
theorem C1.fresh {ys : List T} {m k : Nat} (nid' : Nat) (hs : Spc P fid (xs ++ caps) [] (.asl 0 m) [(0, .arr k ys false)]) (h1 : imAL (xs ++ caps) = true) (hy : ImXs k ys) (hn : TL.get st nid' = none)
    (h : R P e kss Q rows ks K nid ops (putX F d (.p (.asl nid' m))) (stUp st [(nid', .arr k ys false)]) (acc ++ [([] ++ [nid'], [nid'])])) : C1 P e kss Q rows ks K (.clo fid caps) xs d nid ops F st acc := by
  refine C1.of [] [(nid', some 0)] [] [(nid', .arr k ys false)] hs (ltAs_im h1) rfl trivial (by simp) (by rfl) ?_ (by simp [renOk, TL.get]) (by rfl) ?_ (.inl (by rfl)) h
  · refine ⟨?_, trivial⟩
    simp only [TL.get, if_true, wrO, ltO1]
    exact ⟨⟨trivial, by simp, ltXs_refl hy, by simp⟩, .inl hn⟩
  · exact ⟨by simp [TL.get], rfl⟩
/-- a call that makes an object, and answers with something more -/
theorem C1.freshT {ys : List T} {m k : Nat} {x : T} (nid' : Nat) (hs : Spc P fid (xs ++ caps) [] (.tup [.asl 0 m, x]) [(0, .arr k ys false)]) (h1 : imAL (xs ++ caps) = true) (hx : imA x = true) (hy : ImXs k ys) (hn : TL.get st nid' = none)
    (h : R P e kss Q rows ks K nid ops (putX F d (.p (.tup [.asl nid' m, x]))) (stUp st [(nid', .arr k ys false)]) (acc ++ [([] ++ [nid'], [nid'])])) : C1 P e kss Q rows ks K (.clo fid caps) xs d nid ops F st acc := by
  refine C1.of [] [(nid', some 0)] [] [(nid', .arr k ys false)] hs (ltAs_im h1) rfl trivial (by simp) (by rfl) ?_ (by simp [renOk, TL.get]) (by rfl) ?_ (.inl (by rfl)) h
  · refine ⟨?_, trivial⟩
    simp only [TL.get, if_true, wrO, ltO1]
    exact ⟨⟨trivial, by simp, ltXs_refl hy, by simp⟩, .inl hn⟩
  · exact ⟨⟨by simp [TL.get], rfl⟩, ltA_im hx, trivial⟩
/-- objects are lent to a call that makes an object, and answers with something more -/
theorem C1.freshB {ts' ys : List T} {m k : Nat} {x : T} (nid' : Nat) (B : List Nat) (hs : Spc P fid ts' [] (.tup [.asl 0 m, x]) [(0, .arr k ys false)]) (ha : ltAs st [] B (xs ++ caps) ts') (hx : imA x = true) (hv : noA2 (.tup [.asl nid' m, x]) = true) (hy : ImXs k ys) (hA : (flat ys).all noA1 = true) (hn : TL.get st nid' = none)
    (h : R P e kss Q rows ks K nid ops (putX F d (.p (.tup [.asl nid' m, x]))) (stUp st [(nid', .arr k ys false)]) (acc ++ [(B ++ [nid'], [nid'])])) : C1 P e kss Q rows ks K (.clo fid caps) xs d nid ops F st acc := by
  refine C1.of [] [(nid', some 0)] B [(nid', .arr k ys false)] hs ha rfl trivial (by simp) (by rfl) ?_ (by simp [renOk, TL.get]) (by rfl) ?_ (.inr ⟨hv, ?_⟩) h
  · refine ⟨?_, trivial⟩
    simp only [TL.get, if_true, wrO, ltO1]
    exact ⟨⟨trivial, by simp, ltXs_refl hy, by simp⟩, .inl hn⟩
  · exact ⟨⟨by simp [TL.get], rfl⟩, ltA_im hx, trivial⟩
  · simp only [noA1s, Bool.and_true, Bool.or_eq_true]
    exact .inr hA
/-- an object is handed over whole; what comes back lies in its array -/
theorem C1.cutback {ys zs : List T} {m : Nat} (id nid' k : Nat) (B : List Nat) (hs : Spc P fid ts' [(0, .arr k zs false)] (.asl 1 m) [(0, .dead), (1, .arr k ys false)]) (hg : TL.get st id = some (.arr k zs false)) (hz : ImXs k zs) (hy : ImXs k ys)
    (hA : (flat ys).all noA1 = true) (hn : TL.get st nid' = none) (ha : ltAs st [(0, some id)] B (xs ++ caps) ts') (hB : (B.all fun i => !([some id].contains (some i))) = true)
    (h : R P e kss Q rows ks K nid ops (putX F d (.p (.asl nid' m))) (stUp st [(id, .dead), (nid', .arr k ys false)]) (acc ++ [(B ++ [id, nid'], [id, nid'])])) : C1 P e kss Q rows ks K (.clo fid caps) xs d nid ops F st acc := by
  have hne : id ≠ nid' := fun e => by subst e; rw [hg] at hn; cases hn
  refine C1.of [(0, some id)] [(nid', some 1)] B [(id, .dead), (nid', .arr k ys false)] hs ha (by simp [renOk, TL.get]) ?_ hB (by simp [TL.get]) ?_ ?_ (by rfl) ?_ (.inr ⟨rfl, ?_⟩) h
  · refine ⟨?_, trivial⟩
    simp only [TL.get, if_true, ltO2, hg, ltO1]
    refine ⟨trivial, by simp, ltXs_refl hz, fun hb => ?_⟩
    have := List.all_eq_true.1 hB id hb
    simp at this
  · refine ⟨?_, trivial⟩
    simp only [TL.get, if_true, wrO, ltO1, Nat.reduceEqDiff, ↓reduceIte, reduceCtorEq]
    exact ⟨⟨trivial, by simp, ltXs_refl hy, by simp⟩, .inl hn⟩
  · simp [renOk, TL.get, hne]
  · exact ⟨by simp [TL.get], rfl⟩
  · simp only [noA1s, Bool.and_eq_true, Bool.or_eq_true]
    exact ⟨.inr hA, trivial⟩
theorem noA_map {α : Type} {f : α → T} (h : ∀ a, (f a).cells.all noA1 = true) (l : List α) : (flat (l.map f)).all noA1 = true := by
  rw [List.all_eq_true]
  intro c hc
  simp only [flat, List.mem_flatMap, List.mem_map] at hc
  obtain ⟨_, ⟨a, _, rfl⟩, hc⟩ := hc
  exact List.all_eq_true.1 (h a) c hc
end
/-- closes a 'less' goal: what the texts' closers do, once -/
theorem clA {p : Prop} (h : p := by
  all_goals (try simp only [ltSto, ltO2, ltO1, ltAs, ltA, ltC, ltC0, ltC0s, ltCs, ltT, ltFr, ltS, wrOk, wrO, TL.get, hasFr, ↓reduceIte, Nat.reduceEqDiff, reduceCtorEq, Option.getD_some, Option.isSome_some, List.length_map, List.length_append, List.length_cons, List.length_nil, List.append_nil, List.mem_singleton, List.mem_cons, List.not_mem_nil, and_true, true_and, and_self, imp_self, forall_const, false_implies, implies_true, true_implies, or_false, Bool.false_eq_true, Bool.true_eq_false, ImXs_nil, true_or, or_true, false_or, false_and, and_false, rmK, rm1, List.map_append, List.map_cons, List.map_nil, List.cons_append, List.nil_append])
  all_goals (try (repeat' (first
    | exact ltXs_nil
    | (apply ltXs_map; intro _; exact ⟨rfl, rfl⟩)
    | (apply imXs_map; intro _; exact ⟨rfl, rfl⟩)
    | with_reducible apply imXs_append
    | with_reducible refine imXs_cons ⟨rfl, rfl⟩ ?_
    | exact imXs_nil
    | with_reducible apply ltXs_append
    | with_reducible refine ltXs_cons ⟨rfl, rfl, ?_⟩ ?_
    | with_reducible apply And.intro
    | exact ltCs_im rfl
    | exact ltCs_im (by assumption)
    | exact ltXs_refl (by assumption)
    | (refine ⟨⟨?_, rfl, ?_, rfl, ?_⟩, trivial⟩ <;> first | (simp; done) | (apply imXs_map; intro _; exact ⟨rfl, rfl⟩))
    | trivial
    | rfl
    | (rw [i64_succ (by omega)])
    | omega)))) : p := h
end Go.TL
