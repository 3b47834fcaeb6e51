import Derived.Test.YtnejebkdlofdoaaB35
import Derived.Test.YtnejebkdlofdoaaNames
import Derived.Test.YtnejebkdlofdoaaRange
set_option linter.unusedSimpArgs false
set_option linter.unusedVariables false
namespace Go.Proofs
open Go Go.TL
/-! ltSto, ltO2, ltO1, ltAs, ltA, ltC, ltC0, ltC0s, ltCs, ltT, ltFr, ltS, wrOk, wrO, TL.get, hasFr, ↓reduceIte, Nat.reduceEqDiff, reduceCtorEq, Option.getD_some, Option.isSome_some, List.length_map, List.length_append, List.length_cons, List.length_nil, List.append_nil, List.mem_singleton, List.mem_cons, List.not_mem_nil, and_true, true_and, and_self, imp_self, forall_const, false_implies, implies_true, true_implies, or_false, Bool.false_eq_true, Bool.true_eq_false, ImXs_nil, true_or, or_true, false_or, false_and, and_false, rmK, rm1# outputs, plain -/
structure Sig where
  pers : ByteArray
  tm : Int
abbrev sigT (s : Sig) : T := .agg [vS s.pers, vI s.tm]
abbrev vSs (l : List Sig) : T := .sl 2 (l.map sigT)
structure Out where
  num : Int
  proj : ByteArray
  res : ByteArray
  tm : Int
  text : ByteArray
  state : Int
  sigs : List Sig
abbrev outT (x : Out) : T := .agg [vI x.num, vS x.proj, vS x.res, vI x.tm, vS x.text, vI x.state, vSs x.sigs]
abbrev vOs (l : List Out) : T := .sl 7 (l.map outT)
instance : Inhabited Sig := ⟨⟨⟨#[]⟩, 0⟩⟩
abbrev zOut : Out := ⟨0, ⟨#[]⟩, ⟨#[]⟩, 0, ⟨#[]⟩, 0, []⟩
instance : Inhabited Out := ⟨zOut⟩
def timeB (n : Int) : Bool := decide (n ≥ 0) && decide (n ≤ 1073741824)
def sigOK (s : Sig) : Bool := nameB s.pers && timeB s.tm
def headOK (x : Out) : Bool := !(decide (x.num < 1) || decide (x.num > 40) || !nameB x.proj || !nameB x.res || !timeB x.tm || decide ((x.text.size : Int) > 1024))
def tailOK (x : Out) : Bool := !(decide (x.state < 1) || decide (x.state > 6) || decide ((x.sigs.length : Int) > 2))
def validO (x : Out) : Bool := headOK x && tailOK x && !(x.sigs.any fun s => !sigOK s)
/-! bytes -/
def five (n : Int) : List UInt8 := [u8 (shrI .i64 n 32), u8 (shrI .i64 n 24), u8 (shrI .i64 n 16), u8 (shrI .i64 n 8), u8 n]
def txtB (s : ByteArray) : List UInt8 := five s.size ++ s.data.toList
def sigB (s : Sig) : List UInt8 := txtB s.pers ++ five s.tm
def encB (x : Out) : List UInt8 := five x.num ++ txtB x.proj ++ txtB x.res ++ five x.tm ++ txtB x.text ++ five x.state ++ (five x.sigs.length ++ x.sigs.flatMap sigB)
abbrev encT (x : Out) : T := if validO x = true then .tup [vL (encB x), vI 0] else .tup [vL [], vI 11]
theorem five_length (n : Int) : (five n).length = 5 := rfl
def numF (bs : List UInt8) : Int := bs.foldl (fun n c => n * 256 + c.toNat) 0
theorem numF_snoc (bs : List UInt8) (c : UInt8) : numF (bs ++ [c]) = numF bs * 256 + c.toNat := by simp [numF]
theorem numF_range : ∀ (k : Nat) (bs : List UInt8), bs.length = k → 0 ≤ numF bs ∧ numF bs < 256 ^ k
  | 0, bs, h => by
    have : bs = [] := List.eq_nil_of_length_eq_zero h
    subst this; simp [numF]
  | k + 1, bs, h => by
    obtain ⟨l, c, rfl⟩ : ∃ l c, bs = l ++ [c] := ⟨bs.dropLast, bs.getLast (by intro e; rw [e] at h; simp at h), (List.dropLast_concat_getLast _).symm⟩
    have hl : l.length = k := by simpa using h
    obtain ⟨h1, h2⟩ := numF_range k l hl
    have h3 := byte_lt c
    rw [numF_snoc, Int.pow_succ]
    omega
theorem numF_take (b : List UInt8) (i : Nat) (hi : i ≤ 5) (hb : i ≤ b.length) : 0 ≤ numF (b.take i) ∧ numF (b.take i) < 1099511627776 := by
  obtain ⟨h1, h2⟩ := numF_range i (b.take i) (by rw [List.length_take]; omega)
  refine ⟨h1, Int.lt_of_lt_of_le h2 ?_⟩
  have : i = 0 ∨ i = 1 ∨ i = 2 ∨ i = 3 ∨ i = 4 ∨ i = 5 := by omega
  rcases this with h | h | h | h | h | h <;> subst h <;> decide
theorem numF_five {n : Int} (h : 0 ≤ n ∧ n < 1099511627776) : numF (five n) = n := by
  have sh : ∀ k : Int, 0 ≤ k → k < 64 → shrI .i64 n k = n / 2 ^ k.toNat := fun k h0 h1 => by
    unfold shrI
    rw [Int.fdiv_eq_ediv_of_nonneg _ (Int.pow_nonneg (by decide))]
    congr 2
    show min k.toNat 64 = k.toNat
    omega
  have e1 := sh 32 (by omega) (by omega)
  have e2 := sh 24 (by omega) (by omega)
  have e3 := sh 16 (by omega) (by omega)
  have e4 := sh 8 (by omega) (by omega)
  simp only [show (32 : Int).toNat = 32 from rfl, show (24 : Int).toNat = 24 from rfl, show (16 : Int).toNat = 16 from rfl, show (8 : Int).toNat = 8 from rfl] at e1 e2 e3 e4
  have p1 : (2 : Int) ^ 32 = 4294967296 := by decide
  have p2 : (2 : Int) ^ 24 = 16777216 := by decide
  have p3 : (2 : Int) ^ 16 = 65536 := by decide
  have p4 : (2 : Int) ^ 8 = 256 := by decide
  rw [p1] at e1; rw [p2] at e2; rw [p3] at e3; rw [p4] at e4
  simp only [numF, five, List.foldl_cons, List.foldl_nil, u8_nat, e1, e2, e3, e4]
  omega
/-! reading -/
def stN (b : List UInt8) : Option (Int × List UInt8) := if b.length < 5 then none else some (numF (b.take 5), b.drop 5)
def stT (b : List UInt8) : Option (ByteArray × List UInt8) := match stN b with
  | none => none
  | some (n, r) => if n > r.length then none else some (⟨(r.take n.toNat).toArray⟩, r.drop n.toNat)
abbrev RS := List UInt8 × Bool
def qN (s : RS) : Int × RS := if s.2 = true then (0, s) else match stN s.1 with | some (n, r) => (n, (r, false)) | none => (0, (s.1, true))
def qT (s : RS) : ByteArray × RS := match qN s with
  | (n, s1) => if s1.2 = true then (⟨#[]⟩, s1) else if n > s1.1.length then (⟨#[]⟩, (s1.1, true)) else (⟨(s1.1.take n.toNat).toArray⟩, (s1.1.drop n.toNat, false))

end Go.Proofs

