/- Bytes, bits, answers that say less: plain lemmas for the laws. -/
import Derived.Test.YtnejebkdlofdoaaZzZ
namespace Go.TL
set_option linter.unusedSimpArgs false
set_option linter.unusedVariables false

/-! ### bytes -/
abbrev vL (bs : List UInt8) : T := .sl 1 (bs.map byteT)
def u8 (n : Int) : UInt8 := UInt8.ofNat (n % 256).toNat
theorem u8_nat (n : Int) : ((u8 n).toNat : Int) = n % 256 := by
  unfold u8
  have h : (n % 256).toNat < 256 := by omega
  rw [UInt8.toNat_ofNat']
  omega
theorem byteT_u8 (n : Int) : T.v (.int .u8 (IntKind.u8.wrap n)) = byteT (u8 n) := by
  unfold byteT
  rw [u8_nat]
  have : IntKind.u8.wrap n = n % 256 := by
    unfold IntKind.wrap
    simp [IntKind.bits, IntKind.signed]
  rw [this]
theorem u8_of (b : UInt8) : u8 b.toNat = b := by
  apply UInt8.toNat_inj.1
  have h := u8_nat b.toNat
  have := b.toNat_lt
  omega
theorem byte_lt (b : UInt8) : (b.toNat : Int) < 256 := by have := b.toNat_lt; omega
theorem byteT_eq (b : UInt8) : byteT b = .v (.int .u8 b.toNat) := rfl
theorem cells_byte {b : UInt8} : (byteT b).cells = [byteT b] := rfl
theorem live_byte {st : Sto} {b : UInt8} : live st (byteT b) = True := by simp [byteT, live, Value.oneCell']
theorem getD_bytes {bs : List UInt8} {i : Nat} (h : i < bs.length) : (bs.map byteT).getD i .junk = .v (.int .u8 (bs.getD i 0).toNat) := by
  simp [List.getD, List.getElem?_eq_getElem h, byteT]
theorem bytes_v : ∀ (bs : List UInt8), ImXs 1 (bs.map byteT) := imXs_map (f := byteT) fun _ => ⟨rfl, rfl⟩
theorem ltXs_bytes {st : Sto} {ρ : Ren} {B : List Nat} (bs : List UInt8) : ltXs st ρ B 1 (bs.map byteT) (bs.map byteT) := ltXs_refl (bytes_v bs)
theorem unbyte_bytes (bs : List UInt8) : (bs.map byteT).map unbyte = bs := by
  induction bs with
  | nil => rfl
  | cons b r ih =>
    simp only [List.map_cons, ih]
    congr 1
    simp [byteT, unbyte]
theorem isByte_bytes {bs : List UInt8} : ∀ y ∈ bs.map byteT, isByte y = true := by
  intro y hy
  obtain ⟨b, _, rfl⟩ := List.mem_map.1 hy
  rfl
theorem allB_bytes {bs : List UInt8} : (∀ y ∈ bs.map byteT, isByte y = true) = True := eq_true isByte_bytes
theorem allIm_map {α : Type} {f : α → T} (h : ∀ a, imL (f a).cells = true) (l : List α) : allIm (l.map f) := by
  intro x hx c hc
  obtain ⟨a, _, rfl⟩ := List.mem_map.1 hx
  exact imL_mem (h a) c hc
theorem allIm_bytes {bs : List UInt8} : allIm (bs.map byteT) = True := eq_true (allIm_map (fun _ => rfl) bs)
theorem cut_map {α β : Type} (f : α → β) (a b : Int) (l : List α) : cutT a b (l.map f) = (cutT a b l).map f := by
  simp [cutT, List.map_take, List.map_drop]
theorem cut_nat {α : Type} {a b : Nat} {l : List α} : cutT (a : Int) (b : Int) l = (l.take b).drop a := by simp [cutT]
theorem cut_from {α : Type} {a : Nat} {l : List α} : cutT (a : Int) (l.length : Int) l = l.drop a := by simp [cutT]
theorem cut_to {α : Type} {b : Nat} {l : List α} : cutT 0 (b : Int) l = l.take b := by simp [cutT]

/-! ### bits of small numbers -/
theorem bits_nat {n : Int} (h0 : 0 ≤ n) : BitVec.ofInt 64 n = BitVec.ofNat 64 n.toNat := by
  apply BitVec.eq_of_toNat_eq
  simp [BitVec.toNat_ofInt]
  omega
theorem orI_nat {a b : Int} (ha : 0 ≤ a ∧ a < 9223372036854775808) (hb : 0 ≤ b ∧ b < 9223372036854775808) : orI .i64 a b = ((a.toNat ||| b.toNat : Nat) : Int) := by
  have h1 : a.toNat < 2 ^ 63 := by omega
  have h2 : b.toNat < 2 ^ 63 := by omega
  have h3 := Nat.or_lt_two_pow h1 h2
  unfold orI
  rw [show IntKind.i64.bits = 64 from rfl, bits_nat ha.1, bits_nat hb.1, BitVec.toNat_or, BitVec.toNat_ofNat, BitVec.toNat_ofNat, Nat.mod_eq_of_lt (by omega), Nat.mod_eq_of_lt (by omega)]
  exact IntWalk.i64_in _ (by omega)
/-- bits side by side add up -/
theorem orI_add (k : Nat) (hk : k ≤ 62) {a b : Int} (ha : 0 ≤ a) (hm : a * 2 ^ k < 9223372036854775808) (hb : 0 ≤ b ∧ b < 2 ^ k) : orI .i64 (a * 2 ^ k) b = a * 2 ^ k + b := by
  have hp : (0 : Int) < 2 ^ k := Int.pow_pos (by decide)
  have ha0 : 0 ≤ a * 2 ^ k := Int.mul_nonneg ha (by omega)
  have hb2 : b < 9223372036854775808 := by
    have h1 : (2 : Nat) ^ k ≤ 2 ^ 62 := Nat.pow_le_pow_right (by decide) hk
    have h2 : ((2 : Int) ^ k) = ((2 ^ k : Nat) : Int) := by simp
    omega
  rw [orI_nat ⟨ha0, hm⟩ ⟨hb.1, hb2⟩]
  obtain ⟨n, rfl⟩ : ∃ n : Nat, a = n := ⟨a.toNat, by omega⟩
  obtain ⟨m, rfl⟩ : ∃ m : Nat, b = m := ⟨b.toNat, by omega⟩
  have h2 : ((n : Int) * 2 ^ k).toNat = n <<< k := by rw [Nat.shiftLeft_eq]; exact_mod_cast Int.toNat_natCast _
  have hb' : m < 2 ^ k := by exact_mod_cast hb.2
  rw [h2, Int.toNat_natCast, ← Nat.shiftLeft_add_eq_or_of_lt hb', Nat.shiftLeft_eq]
  push_cast
  rfl

theorem shl_small {b n m : Int} (h : n.toNat ≤ 64) (hm : (2 : Int) ^ n.toNat = m) (hb : 0 ≤ b * m ∧ b * m < 9223372036854775808) : shlI .i64 b n = b * m := by
  unfold shlI
  rw [show IntKind.i64.bits = 64 from rfl, Nat.min_eq_left h, hm]
  exact IntWalk.i64_in _ (by omega)
/-- four bytes in a number -/
theorem or4 {a b c d : Int} (ha : 0 ≤ a ∧ a < 256) (hb : 0 ≤ b ∧ b < 256) (hc : 0 ≤ c ∧ c < 256) (hd : 0 ≤ d ∧ d < 256) :
    orI .i64 (orI .i64 (orI .i64 (shlI .i64 a 24) (shlI .i64 b 16)) (shlI .i64 c 8)) d = a * 16777216 + b * 65536 + c * 256 + d := by
  rw [shl_small (m := 16777216) (by decide) (by decide) (by omega), shl_small (m := 65536) (by decide) (by decide) (by omega), shl_small (m := 256) (by decide) (by decide) (by omega)]
  have e24 : (2 : Int) ^ 24 = 16777216 := by decide
  have e16 : (2 : Int) ^ 16 = 65536 := by decide
  have e8 : (2 : Int) ^ 8 = 256 := by decide
  have h1 := orI_add 24 (by decide) (a := a) (b := b * 65536) ha.1 (by omega) (by omega)
  have h2 := orI_add 16 (by decide) (a := a * 256 + b) (b := c * 256) (by omega) (by omega) (by omega)
  have h3 := orI_add 8 (by decide) (a := a * 65536 + b * 256 + c) (b := d) (by omega) (by omega) (by omega)
  rw [e24] at h1
  rw [e16, show (a * 256 + b) * 65536 = a * 16777216 + b * 65536 by omega] at h2
  rw [e8, show (a * 65536 + b * 256 + c) * 256 = a * 16777216 + b * 65536 + c * 256 by omega] at h3
  rw [h1, h2, h3]
theorem ImXs_nil {k : Nat} : ImXs k [] = True := by simp [ImXs]
/-! ### an answer that says less -/
theorem Spc.weaken {P : Program} {f : FuncId} {ts : List T} {st st' st2 : Sto} {r r2 : T} (h : Spc P f ts st r st') (hl : EndOk st r st' r2 st2) : Spc P f ts st r2 st2 := by
  refine ⟨h.1, h.2.1, fun S ι w vals hR => (h.2.2 S ι w vals hR).mono ?_⟩
  rintro en w' ⟨v, ι', rfl, hp⟩
  obtain ⟨ι2, h2⟩ := hl _ rfl _ _ _ hp
  exact ⟨v, ι2, rfl, h2⟩

/-! ### integers in slices -/
abbrev vIs (l : List Int) : T := .sl 1 (l.map vI)
theorem getD_get {α : Type} {l : List α} {i : Nat} {d : α} (h : i < l.length) : l.getD i d = l[i] := by simp [List.getD, h]
theorem getD_ints {l : List Int} {i : Nat} (h : i < l.length) : (l.map vI).getD i .junk = vI l[i] := by simp [List.getD, h]
theorem ints_v (l : List Int) : ImXs 1 (l.map vI) := imXs_map (f := vI) (fun _ => ⟨rfl, rfl⟩) l
theorem ltXs_ints {st : Sto} {ρ : Ren} {B : List Nat} (l : List Int) : ltXs st ρ B 1 (l.map vI) (l.map vI) := ltXs_refl (ints_v l)
theorem allIm_ints {l : List Int} : allIm (l.map vI) = True := eq_true (allIm_map (fun _ => rfl) l)
/-! ### lent and frozen -/
def frzC (i : Nat) (o : Option Ob) (l : List (Nat × Ob)) : List (Nat × Ob) := match o with
  | some (.arr k xs _) => (i, .arr k xs true) :: l
  | _ => l
def frz (st : Sto) : List Nat → List (Nat × Ob)
  | [] => []
  | i :: r => frzC i (TL.get st i) (frz st r)
def isArr (st : Sto) (i : Nat) : Bool := match TL.get st i with | some (.arr ..) => true | _ => false
theorem frz_nil {st : Sto} : frz st [] = [] := _root_.id rfl
theorem frz_cons {st : Sto} {i : Nat} {r : List Nat} : frz st (i :: r) = frzC i (TL.get st i) (frz st r) := _root_.id rfl
theorem frzC_arr {i k : Nat} {xs : List T} {fz : Bool} {l : List (Nat × Ob)} : frzC i (some (.arr k xs fz)) l = (i, .arr k xs true) :: l := _root_.id rfl
theorem wrOk_frz {st : Sto} : ∀ (B : List Nat), wrOk st [] [] [] [] (frz st B)
  | [] => trivial
  | i :: r => by
    rw [frz_cons]
    cases h : TL.get st i with
    | none => exact wrOk_frz r
    | some o => cases o with
      | dead => exact wrOk_frz r
      | mp es => exact wrOk_frz r
      | full i n g => exact wrOk_frz r
      | arr k xs fz =>
        refine ⟨?_, wrOk_frz r⟩
        simp only [TL.get, wrO, h]
        exact ⟨trivial, ⟨trivial, trivial⟩, by simp⟩
theorem get_frz {st : Sto} : ∀ (B : List Nat) (i : Nat), i ∈ B → isArr st i = true → ∃ k xs, TL.get (frz st B) i = some (.arr k xs true)
  | [], i, h, _ => by simp at h
  | j :: r, i, h, hi => by
    rw [frz_cons]
    by_cases hj : j = i
    · subst hj
      unfold isArr at hi
      split at hi
      · rename_i k xs fz hg
        rw [hg, frzC_arr]
        exact ⟨k, xs, by simp [TL.get]⟩
      · cases hi
    · obtain ⟨k, xs, h3⟩ := get_frz r i (by rcases List.mem_cons.1 h with h | h; exact absurd h.symm hj; exact h) hi
      refine ⟨k, xs, ?_⟩
      unfold frzC
      split
      · simp [TL.get, hj, h3]
      · exact h3
theorem fzOk_of {wr : Sto} : ∀ {B : List Nat}, (∀ i ∈ B, ∃ k xs, TL.get wr i = some (.arr k xs true)) → fzOk wr B = true
  | [], _ => rfl
  | i :: r, h => by
    obtain ⟨k, xs, h1⟩ := h i (by simp)
    simp only [fzOk, h1, Bool.true_and]
    exact fzOk_of fun j hj => h j (by simp [hj])
section
variable {P : Program} {st : Sto} {e : Env} {kss : List (Nat × List Nat)} {Q : Ex → St → Prop} {K : List KF} {rows : Option (List Nat)} {ks : List Nat} {nid : Nat} {ops : List ROp} {F : XF} {acc : Acc}
/-- objects are lent, and frozen: the answer may lean on them -/
theorem C1.shut {fid : FuncId} {caps xs ts' : List T} {r : T} {d : Option Nat} (B : List Nat) (hs : Spc P fid ts' [] r [])
    (ha : ltAs st [] B (xs ++ caps) ts') (h2 : imTup r = true) (hB : B.all (isArr st) = true)
    (h : R P e kss Q rows ks K nid ops (putX F d (.p r)) (stUp st (frz st B)) (acc ++ [(B ++ (frz st B).map (·.1), (frz st B).map (·.1))])) : C1 P e kss Q rows ks K (.clo fid caps) xs d nid ops F st acc :=
  .of [] [] B (frz st B) hs ha rfl trivial (by simp) rfl (wrOk_frz B) rfl rfl (ltT_im h2) (.inl (fzOk_of fun i hi => by
    obtain ⟨k, xs, h3⟩ := get_frz B i hi (List.all_eq_true.1 hB i hi)
    exact ⟨k, xs, by rw [get_append, h3]; rfl⟩)) h
/-- objects within objects are lent and frozen -/
theorem C1.shutD {fid : FuncId} {caps xs ts' : List T} {r : T} {d : Option Nat} (B : List Nat) (hs : Spc P fid ts' [] r [])
    (ha : ptw (ltAD st B) (xs ++ caps) ts') (h2 : imTup r = true) (hB : B.all (isArr st) = true)
    (h : R P e kss Q rows ks K nid ops (putX F d (.p r)) (stUp st (frz st B)) (acc ++ [(B ++ (frz st B).map (·.1), (frz st B).map (·.1))])) : C1 P e kss Q rows ks K (.clo fid caps) xs d nid ops F st acc :=
  ⟨r, frz st B, _, .ofL [] [] B (frz st B) hs (ptwA ha) rfl trivial (by simp) rfl (wrOk_frz B) rfl rfl (ltT_im h2) (.inl (fzOk_of fun i hi => by
    obtain ⟨k, xs, h3⟩ := get_frz B i hi (List.all_eq_true.1 hB i hi)
    exact ⟨k, xs, by rw [get_append, h3]; rfl⟩)), h⟩
end
/-! ### one more bundle -/
section
variable {st : Sto}
theorem getD_nil' {n : Nat} {d : T} : ([] : List T).getD n d = d := _root_.id rfl
theorem cells_junk : T.junk.cells = [.junk] := _root_.id rfl
theorem con_junk : conT st .junk = none := _root_.id rfl
theorem cvBSE_none {p : Prop} : cvBSE none p = none := _root_.id rfl
theorem bin_junkL {op : BinOp} {ib : Bool} {y : T} : binR op ib .junk y = none := by cases y <;> rfl
theorem bin_undefL {op : BinOp} {ib : Bool} {y : T} : binR op ib (.v undef) y = none := by
  cases y <;> first | rfl | (rename_i v; cases v <;> rfl)
theorem fillR_nil {cells : List T} : fillR cells [] = some cells := _root_.id rfl
theorem fillR_cons {cells : List T} {off n : Nat} {x : T} {r : List ((Nat × Nat) × T)} : fillR cells (((off, n), x) :: r) = if x.cells.length = n ∧ off + n ≤ cells.length then fillR (cells.take off ++ x.cells ++ cells.drop (off + n)) r else none := _root_.id rfl
theorem str_eql {a b : ByteArray} : strT .eql a b = retB (a.toList == b.toList) := _root_.id rfl
theorem str_neq {a b : ByteArray} : strT .neq a b = retB (!(a.toList == b.toList)) := _root_.id rfl
theorem str_add {a b : ByteArray} : strT .add a b = some ⟨a.size + b.size ≤ 9223372036854775807, .v (.string (a ++ b)), []⟩ := _root_.id rfl
theorem str_gtr {a b : ByteArray} : strT .gtr a b = retB (!(Op.bytesLess a.toList b.toList || a.toList == b.toList)) := _root_.id rfl
theorem str_leq {a b : ByteArray} : strT .leq a b = retB (Op.bytesLess a.toList b.toList || a.toList == b.toList) := _root_.id rfl
theorem str_geq {a b : ByteArray} : strT .geq a b = retB (!Op.bytesLess a.toList b.toList) := _root_.id rfl
theorem str_lss {a b : ByteArray} : strT .lss a b = retB (Op.bytesLess a.toList b.toList) := _root_.id rfl
theorem ex_0 {a : T} {r : List T} : extractT (.tup (a :: r)) 0 = ret a := _root_.id rfl
theorem ex_1 {a : T} {r : List T} {n : Nat} : extractT (.tup (a :: r)) (n + 1) = extractT (.tup r) n := by simp [extractT]
theorem mn_2 {a b : Int} : foldT minI [vI a, vI b] = retI .i64 (minI a b) := _root_.id rfl
theorem mx_2 {a b : Int} : foldT maxI [vI a, vI b] = retI .i64 (maxI a b) := _root_.id rfl
theorem tl3 : type_of% (And.intro @getD_nil' (And.intro @cells_junk (And.intro @con_junk (And.intro @cvBSE_none (And.intro @bin_junkL (And.intro @bin_undefL (And.intro @G2_none (And.intro @allIm_bytes (And.intro @frz_nil (And.intro @frz_cons (And.intro @frzC_arr (And.intro @fillR_nil (And.intro @fillR_cons (And.intro @str_eql (And.intro @str_neq (And.intro @str_add (And.intro @str_lss (And.intro @str_gtr (And.intro @str_leq (And.intro @str_geq (And.intro @ex_0 (And.intro @ex_1 (And.intro @mn_2 (And.intro @mx_2 (And.intro @ByteArray.toList_mk (And.intro @unbyte_bytes (And.intro @allB_bytes (And.intro @cells_byte (And.intro @live_byte (And.intro @List.take_succ_cons.{0} (And.intro @List.drop_succ_cons.{0} (And.intro @List.take_zero.{0} (And.intro @List.drop_zero.{0} (And.intro @List.take_nil.{0} (And.intro @List.drop_nil.{0} (And.intro @List.cons_append.{0} (And.intro @List.nil_append.{0} (And.intro @Nat.zero_add (And.intro @List.set_cons_zero.{0} (@List.set_cons_succ.{0})))))))))))))))))))))))))))))))))))))))) :=
  And.intro @getD_nil' (And.intro @cells_junk (And.intro @con_junk (And.intro @cvBSE_none (And.intro @bin_junkL (And.intro @bin_undefL (And.intro @G2_none (And.intro @allIm_bytes (And.intro @frz_nil (And.intro @frz_cons (And.intro @frzC_arr (And.intro @fillR_nil (And.intro @fillR_cons (And.intro @str_eql (And.intro @str_neq (And.intro @str_add (And.intro @str_lss (And.intro @str_gtr (And.intro @str_leq (And.intro @str_geq (And.intro @ex_0 (And.intro @ex_1 (And.intro @mn_2 (And.intro @mx_2 (And.intro @ByteArray.toList_mk (And.intro @unbyte_bytes (And.intro @allB_bytes (And.intro @cells_byte (And.intro @live_byte (And.intro @List.take_succ_cons.{0} (And.intro @List.drop_succ_cons.{0} (And.intro @List.take_zero.{0} (And.intro @List.drop_zero.{0} (And.intro @List.take_nil.{0} (And.intro @List.drop_nil.{0} (And.intro @List.cons_append.{0} (And.intro @List.nil_append.{0} (And.intro @Nat.zero_add (And.intro @List.set_cons_zero.{0} (@List.set_cons_succ.{0})))))))))))))))))))))))))))))))))))))))
end
end Go.TL
