import Derived.Test.YtflkecekknmkkaaIr
import Derived.Test.YtflkecekknmkkaaZzZ
set_option linter.unusedSimpArgs false
namespace Go.Proofs
open Go Go.TL
theorem mixm : Try.prog.follows .mixedOrders = true := by kernel_rfl
/-! ### plain -/
def mixA (h : Int) : Int := IntKind.u64.wrap (xorI .u64 h (shrI .u64 h 31) * 13787848793156543929)
def mix0 (s r x : Int) : Int := IntKind.u64.wrap (IntKind.u64.wrap (IntKind.u64.wrap s + IntKind.u64.wrap (IntKind.u64.wrap r * 11400714819323198485)) + IntKind.u64.wrap (IntKind.u64.wrap x * 14029467366897019727))
def iter {α : Type} (f : α → α) : Nat → α → α
  | 0, x => x
  | n + 1, x => f (iter f n x)
def mixI (s r x : Int) : Int := IntKind.i64.wrap (shrI .u64 (iter mixA 3 (mix0 s r x)) 54)
def fwd (s : Int) : Nat → Int × Int → Int × Int
  | 0, p => p
  | r + 1, p => ((fwd s r p).2, xorI .i64 (fwd s r p).1 (mixI s r (fwd s r p).2))
def bwd (s : Int) : Nat → Int × Int → Int × Int
  | 0, p => p
  | r + 1, p => bwd s r (xorI .i64 p.2 (mixI s r p.1), p.1)
def rightI (s n : Int) : Bool := decide (0 ≤ s) && decide (s < 1152921504606846976) && decide (0 ≤ n) && decide (n < 1048576)
def tie (p : Int × Int) : Int := p.1 * 1024 + p.2
def cut (n : Int) : Int × Int := (n / 1024, n % 1024)
def keyI (s n : Int) : Int := if rightI s n = true then tie (fwd s 8 (cut n)) else -1
def idI (s n : Int) : Int := if rightI s n = true then tie (bwd s 8 (cut n)) else -1

theorem bits_nat {n : Int} (h0 : 0 ≤ n) : BitVec.ofInt 64 n = BitVec.ofNat 64 n.toNat := by
  apply BitVec.eq_of_toNat_eq
  simp [BitVec.toNat_ofInt]
  omega
theorem xor_nat {a b : Int} (ha : 0 ≤ a ∧ a < 9223372036854775808) (hb : 0 ≤ b ∧ b < 9223372036854775808) : xorI .i64 a b = ((a.toNat ^^^ b.toNat : Nat) : Int) := by
  have h1 : a.toNat < 2 ^ 63 := by omega
  have h2 : b.toNat < 2 ^ 63 := by omega
  have h3 := Nat.xor_lt_two_pow h1 h2
  unfold xorI
  rw [show IntKind.i64.bits = 64 from rfl, bits_nat ha.1, bits_nat hb.1, BitVec.toNat_xor, BitVec.toNat_ofNat, BitVec.toNat_ofNat, Nat.mod_eq_of_lt (by omega), Nat.mod_eq_of_lt (by omega)]
  exact IntWalk.i64_in _ (by omega)
theorem xor_range {a b : Int} (ha : 0 ≤ a ∧ a < 1024) (hb : 0 ≤ b ∧ b < 1024) : 0 ≤ xorI .i64 a b ∧ xorI .i64 a b < 1024 := by
  have h1 : a.toNat < 2 ^ 10 := by omega
  have h2 : b.toNat < 2 ^ 10 := by omega
  have h3 := Nat.xor_lt_two_pow h1 h2
  rw [xor_nat (by omega) (by omega)]
  omega
theorem xor_xor {a b : Int} (ha : 0 ≤ a ∧ a < 1024) (hb : 0 ≤ b ∧ b < 1024) : xorI .i64 (xorI .i64 a b) b = a := by
  have := xor_range ha hb
  rw [xor_nat (by omega) (by omega), xor_nat (by omega) (by omega)]
  simp only [Int.toNat_natCast, Nat.xor_assoc, Nat.xor_self, Nat.xor_zero]
  omega
theorem mix_range (s r x : Int) : 0 ≤ mixI s r x ∧ mixI s r x < 1024 := by
  unfold mixI
  have h : ∀ n, 0 ≤ iter mixA 3 n ∧ iter mixA 3 n < 18446744073709551616 := by
    intro n
    simp only [iter]
    unfold mixA
    rw [IntKind.wrap_u64]
    omega
  have := h (mix0 s r x)
  have h1 : shrI .u64 (iter mixA 3 (mix0 s r x)) 54 = (iter mixA 3 (mix0 s r x)) / 18014398509481984 := by
    unfold shrI
    rw [Int.fdiv_eq_ediv_of_nonneg _ (by decide)]
    rfl
  rw [h1]
  rw [IntWalk.i64_in _ (by omega)]
  omega
theorem fwd_range {s : Int} {p : Int × Int} (h : (0 ≤ p.1 ∧ p.1 < 1024) ∧ 0 ≤ p.2 ∧ p.2 < 1024) : ∀ r, (0 ≤ (fwd s r p).1 ∧ (fwd s r p).1 < 1024) ∧ 0 ≤ (fwd s r p).2 ∧ (fwd s r p).2 < 1024
  | 0 => h
  | r + 1 => ⟨(fwd_range h r).2, xor_range (fwd_range h r).1 (mix_range _ _ _)⟩
theorem bwd_range {s : Int} : ∀ (r : Nat) {p : Int × Int}, (0 ≤ p.1 ∧ p.1 < 1024) ∧ 0 ≤ p.2 ∧ p.2 < 1024 → (0 ≤ (bwd s r p).1 ∧ (bwd s r p).1 < 1024) ∧ 0 ≤ (bwd s r p).2 ∧ (bwd s r p).2 < 1024
  | 0, _, h => h
  | r + 1, _, h => bwd_range r ⟨xor_range h.2 (mix_range _ _ _), h.1⟩
theorem bwd_fwd {s : Int} {p : Int × Int} (h : (0 ≤ p.1 ∧ p.1 < 1024) ∧ 0 ≤ p.2 ∧ p.2 < 1024) : ∀ r, bwd s r (fwd s r p) = p
  | 0 => rfl
  | r + 1 => by
    simp only [bwd, fwd]
    rw [xor_xor (fwd_range h r).1 (mix_range _ _ _)]
    exact bwd_fwd h r
theorem fwd_bwd {s : Int} : ∀ (r : Nat) {p : Int × Int}, (0 ≤ p.1 ∧ p.1 < 1024) ∧ 0 ≤ p.2 ∧ p.2 < 1024 → fwd s r (bwd s r p) = p
  | 0, _, _ => rfl
  | r + 1, p, h => by
    simp only [bwd, fwd]
    rw [fwd_bwd r ⟨xor_range h.2 (mix_range _ _ _), h.1⟩]
    simp only [xor_xor h.2 (mix_range _ _ _)]
theorem cut_range {n : Int} (h : 0 ≤ n ∧ n < 1048576) : (0 ≤ (cut n).1 ∧ (cut n).1 < 1024) ∧ 0 ≤ (cut n).2 ∧ (cut n).2 < 1024 := by
  simp only [cut]; omega
theorem cut_tie {p : Int × Int} (h : (0 ≤ p.1 ∧ p.1 < 1024) ∧ 0 ≤ p.2 ∧ p.2 < 1024) : cut (tie p) = p := by
  obtain ⟨a, b⟩ := p
  simp only [cut, tie] at *
  congr 1 <;> omega
theorem tie_cut (n : Int) : tie (cut n) = n := by simp only [cut, tie]; omega
theorem tie_range {p : Int × Int} (h : (0 ≤ p.1 ∧ p.1 < 1024) ∧ 0 ≤ p.2 ∧ p.2 < 1024) : 0 ≤ tie p ∧ tie p < 1048576 := by
  simp only [tie]; omega

/-! ### contracts -/
theorem c8 (a : Int) : Spc Try.prog 8 [vI a] [] (vI (IntKind.i64.wrap (shrI .u64 (IntKind.u64.wrap a) 4))) [] := by
  refine spec_of_ir fn8 mixm (by simp) fun e hn hst => W_start ?_
  unfold ir8
  simp only [tl, tl2, isCallR, entX, argFr, ret, retI, retB, intT, unT, endR, ressR, resR, tupT, bslR, boxR, lenAll, ↓reduceIte, Nat.reduceEqDiff, Nat.reduceAdd, Nat.reduceMul, Nat.reduceLT, Nat.reduceLeDiff, reduceCtorEq, Int.reduceLE, Int.reduceLT, ne_eq, Int.reduceEq, not_false_eq_true, decide_true, decide_false, Int.reduceToNat]
  exact .imR rfl rfl
theorem c17 (a b : Int) : Spc Try.prog 17 [vI a, vI b] [] (vB (rightI a b)) [] := by
  refine spec_of_ir fn17 mixm (by simp) fun e hn hst => W_start ?_
  unfold ir17
  simp only [tl, tl2, isCallR, entX, argFr, ret, retI, retB, intT, unT, endR, ressR, resR, tupT, bslR, boxR, lenAll, ↓reduceIte, Nat.reduceEqDiff, Nat.reduceAdd, Nat.reduceMul, Nat.reduceLT, Nat.reduceLeDiff, reduceCtorEq, Int.reduceLE, Int.reduceLT, ne_eq, Int.reduceEq, not_false_eq_true, decide_true, decide_false, Int.reduceToNat]
  exact .imR rfl rfl
theorem c18 (a b c : Int) : Spc Try.prog 18 [vI a, vI b, vI c] [] (vI (mixI a b c)) [] := by
  refine spec_of_ir fn18 mixm (by simp) fun e hn hst => W_start ?_
  unfold ir18
  simp only [tl, tl2, isCallR, entX, argFr, ret, retI, retB, intT, unT, endR, ressR, resR, tupT, bslR, boxR, lenAll, ↓reduceIte, Nat.reduceEqDiff, Nat.reduceAdd, Nat.reduceMul, Nat.reduceLT, Nat.reduceLeDiff, reduceCtorEq, Int.reduceLE, Int.reduceLT, ne_eq, Int.reduceEq, not_false_eq_true, decide_true, decide_false, Int.reduceToNat]
  refine W_loop mixm (α := Nat) (fun i => i ≤ 3) (fun i => [(7, vU64 (iter mixA i (mix0 a b c))), (18, vI i)]) (fun _ => []) (fun i => 3 - i) 0 (by omega) (.ofFr (by simp [hasFr, TL.get, iter, mix0])) fun i hi => ?_
  simp only [tl, tl2, isCallR, entX, argFr, ret, retI, retB, intT, unT, endR, ressR, resR, tupT, bslR, boxR, lenAll, ↓reduceIte, Nat.reduceEqDiff, Nat.reduceAdd, Nat.reduceMul, Nat.reduceLT, Nat.reduceLeDiff, reduceCtorEq, Int.reduceLE, Int.reduceLT, ne_eq, Int.reduceEq, not_false_eq_true, decide_true, decide_false, Int.reduceToNat, decide_eq_true_eq, decide_eq_false_iff_not]
  refine ⟨fun h => ⟨i + 1, by omega, by omega, .ofFr ?_⟩, fun h => ?_⟩
  · simp [hasFr, TL.get, iter, mixA]
    exact IntWalk.i64_in _ (by omega)
  · have : i = 3 := by omega
    subst this
    exact .imR rfl rfl
theorem c9 (s n : Int) : Spc Try.prog 9 [vI s, vI n] [] (vI (keyI s n)) [] := by
  refine spec_of_ir fn9 mixm (by simp) fun e hn hst => W_start ?_
  unfold ir9
  simp only [tl, tl2, isCallR, entX, argFr, ret, retI, retB, intT, unT, endR, ressR, resR, tupT, bslR, boxR, lenAll, ↓reduceIte, Nat.reduceEqDiff, Nat.reduceAdd, Nat.reduceMul, Nat.reduceLT, Nat.reduceLeDiff, reduceCtorEq, Int.reduceLE, Int.reduceLT, ne_eq, Int.reduceEq, not_false_eq_true, decide_true, decide_false, Int.reduceToNat]
  refine C1.im (c17 s n) rfl rfl ?_
  simp only [tl, tl2, isCallR, entX, argFr, ret, retI, retB, intT, unT, endR, ressR, resR, tupT, bslR, boxR, lenAll, ↓reduceIte, Nat.reduceEqDiff, Nat.reduceAdd, Nat.reduceMul, Nat.reduceLT, Nat.reduceLeDiff, reduceCtorEq, Int.reduceLE, Int.reduceLT, ne_eq, Int.reduceEq, not_false_eq_true, decide_true, decide_false, Int.reduceToNat, Bool.not_eq_false']
  refine ⟨fun h => .imR (by simp [keyI, h]) rfl, fun h => ?_⟩
  have hn : 0 ≤ n ∧ n < 1048576 := by simp [rightI] at h; omega
  rw [Int.tdiv_eq_ediv_of_nonneg hn.1, Int.tmod_eq_emod_of_nonneg hn.1, IntWalk.i64_in _ (by omega)]
  have hr := fwd_range (s := s) (cut_range hn)
  refine W_loop mixm (α := Nat) (fun i => i ≤ 8) (fun i => [(0, vI s), (5, vI (fwd s i (cut n)).1), (6, vI (fwd s i (cut n)).2), (16, vI i)]) (fun _ => []) (fun i => 8 - i) 0 (by omega) (.ofFr (by simp [hasFr, TL.get, fwd, cut])) fun i hi => ?_
  simp only [tl, tl2, isCallR, entX, argFr, ret, retI, retB, intT, unT, endR, ressR, resR, tupT, bslR, boxR, lenAll, ↓reduceIte, Nat.reduceEqDiff, Nat.reduceAdd, Nat.reduceMul, Nat.reduceLT, Nat.reduceLeDiff, reduceCtorEq, Int.reduceLE, Int.reduceLT, ne_eq, Int.reduceEq, not_false_eq_true, decide_true, decide_false, Int.reduceToNat, decide_eq_true_eq, decide_eq_false_iff_not]
  refine ⟨fun h => ?_, fun h => ?_⟩
  · refine C1.im (c18 s i _) rfl rfl ?_
    simp only [tl, tl2, isCallR, entX, argFr, ret, retI, retB, intT, unT, endR, ressR, resR, tupT, bslR, boxR, lenAll, ↓reduceIte, Nat.reduceEqDiff, Nat.reduceAdd, Nat.reduceMul, Nat.reduceLT, Nat.reduceLeDiff, reduceCtorEq, Int.reduceLE, Int.reduceLT, ne_eq, Int.reduceEq, not_false_eq_true, decide_true, decide_false, Int.reduceToNat]
    refine ⟨i + 1, by omega, by omega, .ofFr ?_⟩
    simp [hasFr, TL.get, fwd]
    exact IntWalk.i64_in _ (by omega)
  · have : i = 8 := by omega
    subst this
    have := hr 8
    refine .imR ?_ rfl
    rw [IntWalk.i64_in _ (by rw [IntWalk.i64_in _ (by omega)]; omega), IntWalk.i64_in _ (by omega)]
    simp [keyI, h, tie, *]
theorem c10 (s n : Int) : Spc Try.prog 10 [vI s, vI n] [] (vI (idI s n)) [] := by
  refine spec_of_ir fn10 mixm (by simp) fun e hn hst => W_start ?_
  unfold ir10
  simp only [tl, tl2, isCallR, entX, argFr, ret, retI, retB, intT, unT, endR, ressR, resR, tupT, bslR, boxR, lenAll, ↓reduceIte, Nat.reduceEqDiff, Nat.reduceAdd, Nat.reduceMul, Nat.reduceLT, Nat.reduceLeDiff, reduceCtorEq, Int.reduceLE, Int.reduceLT, ne_eq, Int.reduceEq, not_false_eq_true, decide_true, decide_false, Int.reduceToNat]
  refine C1.im (c17 s n) rfl rfl ?_
  simp only [tl, tl2, isCallR, entX, argFr, ret, retI, retB, intT, unT, endR, ressR, resR, tupT, bslR, boxR, lenAll, ↓reduceIte, Nat.reduceEqDiff, Nat.reduceAdd, Nat.reduceMul, Nat.reduceLT, Nat.reduceLeDiff, reduceCtorEq, Int.reduceLE, Int.reduceLT, ne_eq, Int.reduceEq, not_false_eq_true, decide_true, decide_false, Int.reduceToNat, Bool.not_eq_false']
  refine ⟨fun h => .imR (by simp [idI, h]) rfl, fun h => ?_⟩
  have hn : 0 ≤ n ∧ n < 1048576 := by simp [rightI] at h; omega
  rw [Int.tdiv_eq_ediv_of_nonneg hn.1, Int.tmod_eq_emod_of_nonneg hn.1, IntWalk.i64_in _ (by omega)]
  have hr := bwd_range (s := s) 8 (cut_range hn)
  refine W_loop mixm (α := Nat × Int × Int) (fun x => x.1 ≤ 8 ∧ bwd s x.1 x.2 = bwd s 8 (cut n)) (fun x => [(0, vI s), (5, vI x.2.1), (6, vI x.2.2), (7, vI (x.1 - 1 : Int))]) (fun _ => []) (fun x => x.1) (8, cut n) ⟨by omega, rfl⟩ (.ofFr (by simp [hasFr, TL.get, cut])) ?_
  rintro ⟨k, a, b⟩ ⟨hk, hI⟩
  simp only [tl, tl2, isCallR, entX, argFr, ret, retI, retB, intT, unT, endR, ressR, resR, tupT, bslR, boxR, lenAll, ↓reduceIte, Nat.reduceEqDiff, Nat.reduceAdd, Nat.reduceMul, Nat.reduceLT, Nat.reduceLeDiff, reduceCtorEq, Int.reduceLE, Int.reduceLT, ne_eq, Int.reduceEq, not_false_eq_true, decide_true, decide_false, Int.reduceToNat, decide_eq_true_eq, decide_eq_false_iff_not]
  simp only at hk hI
  refine ⟨fun h1 => ?_, fun h1 => ?_⟩
  · refine C1.im (c18 s _ _) rfl rfl ?_
    simp only [tl, tl2, isCallR, entX, argFr, ret, retI, retB, intT, unT, endR, ressR, resR, tupT, bslR, boxR, lenAll, ↓reduceIte, Nat.reduceEqDiff, Nat.reduceAdd, Nat.reduceMul, Nat.reduceLT, Nat.reduceLeDiff, reduceCtorEq, Int.reduceLE, Int.reduceLT, ne_eq, Int.reduceEq, not_false_eq_true, decide_true, decide_false, Int.reduceToNat]
    obtain ⟨k, rfl⟩ : ∃ k', k = k' + 1 := ⟨k - 1, by omega⟩
    refine ⟨(k, xorI .i64 b (mixI s k a), a), ⟨by simp only; omega, by simpa [bwd] using hI⟩, by simp only; omega, .ofFr ?_⟩
    simp [hasFr, TL.get]
    exact IntWalk.i64_in _ (by omega)
  · have : k = 0 := by omega
    subst this
    have hI : (a, b) = bwd s 8 (cut n) := hI
    have h2 : a = (bwd s 8 (cut n)).1 := by rw [← hI]
    have h3 : b = (bwd s 8 (cut n)).2 := by rw [← hI]
    refine .imR ?_ rfl
    rw [IntWalk.i64_in _ (by rw [IntWalk.i64_in _ (by omega)]; omega), IntWalk.i64_in _ (by omega)]
    simp [idI, h, tie, h2, h3]
theorem c19 (a b : Int) : Spc Try.prog 19 [vI a, vI b] [] (vB (rightI a b)) [] := by
  refine spec_of_ir fn19 mixm (by simp) fun e hn hst => W_start ?_
  unfold ir19
  simp only [tl, tl2, isCallR, entX, argFr, ret, retI, retB, intT, unT, endR, ressR, resR, tupT, bslR, boxR, lenAll, ↓reduceIte, Nat.reduceEqDiff, Nat.reduceAdd, Nat.reduceMul, Nat.reduceLT, Nat.reduceLeDiff, reduceCtorEq, Int.reduceLE, Int.reduceLT, ne_eq, Int.reduceEq, not_false_eq_true, decide_true, decide_false, Int.reduceToNat]
  exact .imR rfl rfl
def roundI (s r x : Int) : Int := if s < 0 ∨ 1152921504606846976 ≤ s ∨ r < 0 ∨ 8 ≤ r ∨ x < 0 ∨ 1024 ≤ x then 0 else mixI s r x
theorem c15 (a b c : Int) : Spc Try.prog 15 [vI a, vI b, vI c] [] (vI (roundI a b c)) [] := by
  refine spec_of_ir fn15 mixm (by simp) fun e hn hst => W_start ?_
  unfold ir15
  simp only [tl, tl2, isCallR, entX, argFr, ret, retI, retB, intT, unT, endR, ressR, resR, tupT, bslR, boxR, lenAll, ↓reduceIte, Nat.reduceEqDiff, Nat.reduceAdd, Nat.reduceMul, Nat.reduceLT, Nat.reduceLeDiff, reduceCtorEq, Int.reduceLE, Int.reduceLT, ne_eq, Int.reduceEq, not_false_eq_true, decide_true, decide_false, Int.reduceToNat, Bool.or_eq_true, Bool.or_eq_false_iff, decide_eq_true_eq, decide_eq_false_iff_not]
  refine ⟨fun h => .imR ?_ rfl, fun h => C1.im (c18 a b c) rfl rfl ?_⟩
  · rw [roundI, if_pos (by omega)]
  · simp only [tl, tl2, isCallR, entX, argFr, ret, retI, retB, intT, unT, endR, ressR, resR, tupT, bslR, boxR, lenAll, ↓reduceIte, Nat.reduceEqDiff, Nat.reduceAdd, Nat.reduceMul, Nat.reduceLT, Nat.reduceLeDiff, reduceCtorEq, Int.reduceLE, Int.reduceLT, ne_eq, Int.reduceEq, not_false_eq_true, decide_true, decide_false, Int.reduceToNat]
    refine .imR ?_ rfl
    rw [roundI, if_neg (by omega)]
theorem c16 (a b c : Int) : Spc Try.prog 16 [vI a, vI b, vI c] [] (vI (roundI a b c)) [] := by
  refine spec_of_ir fn16 mixm (by simp) fun e hn hst => W_start ?_
  unfold ir16
  simp only [tl, tl2, isCallR, entX, argFr, ret, retI, retB, intT, unT, endR, ressR, resR, tupT, bslR, boxR, lenAll, ↓reduceIte, Nat.reduceEqDiff, Nat.reduceAdd, Nat.reduceMul, Nat.reduceLT, Nat.reduceLeDiff, reduceCtorEq, Int.reduceLE, Int.reduceLT, ne_eq, Int.reduceEq, not_false_eq_true, decide_true, decide_false, Int.reduceToNat, Bool.or_eq_true, Bool.or_eq_false_iff, decide_eq_true_eq, decide_eq_false_iff_not]
  refine ⟨fun h => .imR ?_ rfl, fun h => ?_⟩
  · rw [roundI, if_pos (by omega)]
  · refine W_loop mixm (α := Nat) (fun i => i ≤ 3) (fun i => [(7, vU64 (iter mixA i (mix0 a b c))), (8, vI i)]) (fun _ => []) (fun i => 3 - i) 0 (by omega) (.ofFr (by simp [hasFr, TL.get, iter, mix0])) fun i hi => ?_
    simp only [tl, tl2, isCallR, entX, argFr, ret, retI, retB, intT, unT, endR, ressR, resR, tupT, bslR, boxR, lenAll, ↓reduceIte, Nat.reduceEqDiff, Nat.reduceAdd, Nat.reduceMul, Nat.reduceLT, Nat.reduceLeDiff, reduceCtorEq, Int.reduceLE, Int.reduceLT, ne_eq, Int.reduceEq, not_false_eq_true, decide_true, decide_false, Int.reduceToNat, decide_eq_true_eq, decide_eq_false_iff_not]
    refine ⟨fun h => ⟨i + 1, by omega, by omega, .ofFr ?_⟩, fun h => ?_⟩
    · simp [hasFr, TL.get, iter, mixA]
      exact IntWalk.i64_in _ (by omega)
    · have : i = 3 := by omega
      subst this
      refine .imR ?_ rfl
      rw [roundI, if_neg (by omega)]
      rfl
theorem round_in {s n x : Int} {r : Nat} (h : rightI s n = true) (hr : r < 8) (hx : 0 ≤ x ∧ x < 1024) : roundI s r x = mixI s r x := by
  simp [rightI] at h
  rw [roundI, if_neg (by omega)]
theorem c13 (s n : Int) : Spc Try.prog 13 [vI s, vI n] [] (vI (keyI s n)) [] := by
  refine spec_of_ir fn13 mixm (by simp) fun e hn hst => W_start ?_
  unfold ir13
  simp only [tl, tl2, isCallR, entX, argFr, ret, retI, retB, intT, unT, endR, ressR, resR, tupT, bslR, boxR, lenAll, ↓reduceIte, Nat.reduceEqDiff, Nat.reduceAdd, Nat.reduceMul, Nat.reduceLT, Nat.reduceLeDiff, reduceCtorEq, Int.reduceLE, Int.reduceLT, ne_eq, Int.reduceEq, not_false_eq_true, decide_true, decide_false, Int.reduceToNat]
  refine C1.im (c19 s n) rfl rfl ?_
  simp only [tl, tl2, isCallR, entX, argFr, ret, retI, retB, intT, unT, endR, ressR, resR, tupT, bslR, boxR, lenAll, ↓reduceIte, Nat.reduceEqDiff, Nat.reduceAdd, Nat.reduceMul, Nat.reduceLT, Nat.reduceLeDiff, reduceCtorEq, Int.reduceLE, Int.reduceLT, ne_eq, Int.reduceEq, not_false_eq_true, decide_true, decide_false, Int.reduceToNat, Bool.not_eq_false']
  refine ⟨fun h => .imR (by simp [keyI, h]) rfl, fun h => ?_⟩
  have hn : 0 ≤ n ∧ n < 1048576 := by simp [rightI] at h; omega
  rw [Int.tdiv_eq_ediv_of_nonneg hn.1, Int.tmod_eq_emod_of_nonneg hn.1, IntWalk.i64_in _ (by omega)]
  have hr := fwd_range (s := s) (cut_range hn)
  refine W_loop mixm (α := Nat) (fun i => i ≤ 8) (fun i => [(0, vI s), (5, vI (fwd s i (cut n)).1), (6, vI (fwd s i (cut n)).2), (7, vI i)]) (fun _ => []) (fun i => 8 - i) 0 (by omega) (.ofFr (by simp [hasFr, TL.get, fwd, cut])) fun i hi => ?_
  simp only [tl, tl2, isCallR, entX, argFr, ret, retI, retB, intT, unT, endR, ressR, resR, tupT, bslR, boxR, lenAll, ↓reduceIte, Nat.reduceEqDiff, Nat.reduceAdd, Nat.reduceMul, Nat.reduceLT, Nat.reduceLeDiff, reduceCtorEq, Int.reduceLE, Int.reduceLT, ne_eq, Int.reduceEq, not_false_eq_true, decide_true, decide_false, Int.reduceToNat, decide_eq_true_eq, decide_eq_false_iff_not]
  refine ⟨fun h1 => ?_, fun h1 => ?_⟩
  · refine C1.im (c16 s i _) rfl rfl ?_
    simp only [tl, tl2, isCallR, entX, argFr, ret, retI, retB, intT, unT, endR, ressR, resR, tupT, bslR, boxR, lenAll, ↓reduceIte, Nat.reduceEqDiff, Nat.reduceAdd, Nat.reduceMul, Nat.reduceLT, Nat.reduceLeDiff, reduceCtorEq, Int.reduceLE, Int.reduceLT, ne_eq, Int.reduceEq, not_false_eq_true, decide_true, decide_false, Int.reduceToNat]
    refine ⟨i + 1, by omega, by omega, .ofFr ?_⟩
    rw [round_in h (by omega) (hr i).2]
    simp [hasFr, TL.get, fwd]
    exact IntWalk.i64_in _ (by omega)
  · have : i = 8 := by omega
    subst this
    have := hr 8
    refine .imR ?_ rfl
    rw [IntWalk.i64_in _ (by rw [IntWalk.i64_in _ (by omega)]; omega), IntWalk.i64_in _ (by omega)]
    simp [keyI, h, tie]
theorem c14 (s n : Int) : Spc Try.prog 14 [vI s, vI n] [] (vI (idI s n)) [] := by
  refine spec_of_ir fn14 mixm (by simp) fun e hn hst => W_start ?_
  unfold ir14
  simp only [tl, tl2, isCallR, entX, argFr, ret, retI, retB, intT, unT, endR, ressR, resR, tupT, bslR, boxR, lenAll, ↓reduceIte, Nat.reduceEqDiff, Nat.reduceAdd, Nat.reduceMul, Nat.reduceLT, Nat.reduceLeDiff, reduceCtorEq, Int.reduceLE, Int.reduceLT, ne_eq, Int.reduceEq, not_false_eq_true, decide_true, decide_false, Int.reduceToNat]
  refine C1.im (c19 s n) rfl rfl ?_
  simp only [tl, tl2, isCallR, entX, argFr, ret, retI, retB, intT, unT, endR, ressR, resR, tupT, bslR, boxR, lenAll, ↓reduceIte, Nat.reduceEqDiff, Nat.reduceAdd, Nat.reduceMul, Nat.reduceLT, Nat.reduceLeDiff, reduceCtorEq, Int.reduceLE, Int.reduceLT, ne_eq, Int.reduceEq, not_false_eq_true, decide_true, decide_false, Int.reduceToNat, Bool.not_eq_false']
  refine ⟨fun h => .imR (by simp [idI, h]) rfl, fun h => ?_⟩
  have hn : 0 ≤ n ∧ n < 1048576 := by simp [rightI] at h; omega
  rw [Int.tdiv_eq_ediv_of_nonneg hn.1, Int.tmod_eq_emod_of_nonneg hn.1, IntWalk.i64_in _ (by omega)]
  have hr := bwd_range (s := s) 8 (cut_range hn)
  refine W_loop mixm (α := Nat × Int × Int) (fun x => x.1 ≤ 8 ∧ bwd s x.1 x.2 = bwd s 8 (cut n) ∧ (0 ≤ x.2.1 ∧ x.2.1 < 1024) ∧ 0 ≤ x.2.2 ∧ x.2.2 < 1024) (fun x => [(0, vI s), (5, vI x.2.1), (6, vI x.2.2), (7, vI (x.1 - 1 : Int))]) (fun _ => []) (fun x => x.1) (8, cut n) ⟨by omega, rfl, cut_range hn⟩ (.ofFr (by simp [hasFr, TL.get, cut])) ?_
  rintro ⟨k, a, b⟩ ⟨hk, hI, hab⟩
  simp only [tl, tl2, isCallR, entX, argFr, ret, retI, retB, intT, unT, endR, ressR, resR, tupT, bslR, boxR, lenAll, ↓reduceIte, Nat.reduceEqDiff, Nat.reduceAdd, Nat.reduceMul, Nat.reduceLT, Nat.reduceLeDiff, reduceCtorEq, Int.reduceLE, Int.reduceLT, ne_eq, Int.reduceEq, not_false_eq_true, decide_true, decide_false, Int.reduceToNat, decide_eq_true_eq, decide_eq_false_iff_not]
  simp only at hk hI hab
  refine ⟨fun h1 => ?_, fun h1 => ?_⟩
  · refine C1.im (c16 s _ _) rfl rfl ?_
    simp only [tl, tl2, isCallR, entX, argFr, ret, retI, retB, intT, unT, endR, ressR, resR, tupT, bslR, boxR, lenAll, ↓reduceIte, Nat.reduceEqDiff, Nat.reduceAdd, Nat.reduceMul, Nat.reduceLT, Nat.reduceLeDiff, reduceCtorEq, Int.reduceLE, Int.reduceLT, ne_eq, Int.reduceEq, not_false_eq_true, decide_true, decide_false, Int.reduceToNat]
    obtain ⟨k, rfl⟩ : ∃ k', k = k' + 1 := ⟨k - 1, by omega⟩
    refine ⟨(k, xorI .i64 b (mixI s k a), a), ⟨by simp only; omega, by simpa [bwd] using hI, xor_range hab.2 (mix_range _ _ _), hab.1⟩, by simp only; omega, .ofFr ?_⟩
    have : ((k + 1 : Nat) : Int) - 1 = k := by omega
    rw [this, round_in h (by omega) hab.1]
    simp [hasFr, TL.get]
    exact IntWalk.i64_in _ (by omega)
  · have : k = 0 := by omega
    subst this
    have hI : (a, b) = bwd s 8 (cut n) := hI
    refine .imR ?_ rfl
    have h2 : a = (bwd s 8 (cut n)).1 := by rw [← hI]
    have h3 : b = (bwd s 8 (cut n)).2 := by rw [← hI]
    rw [IntWalk.i64_in _ (by rw [IntWalk.i64_in _ (by omega)]; omega), IntWalk.i64_in _ (by omega)]
    simp [idI, h, tie, h2, h3]
theorem c11 : Spc Try.prog 11 [] [] (vB true) [] := by
  refine spec_of_ir fn11 mixm (by simp) fun e hn hst => W_start ?_
  unfold ir11
  simp only [tl, tl2, isCallR, entX, argFr, ret, retI, retB, intT, unT, endR, ressR, resR, tupT, bslR, boxR, lenAll, ↓reduceIte, Nat.reduceEqDiff, Nat.reduceAdd, Nat.reduceMul, Nat.reduceLT, Nat.reduceLeDiff, reduceCtorEq, Int.reduceLE, Int.reduceLT, ne_eq, Int.reduceEq, not_false_eq_true, decide_true, decide_false, Int.reduceToNat]
  refine C1.im (c9 _ _) rfl rfl ?_
  simp only [tl, tl2, isCallR, entX, argFr, ret, retI, retB, intT, unT, endR, ressR, resR, tupT, bslR, boxR, lenAll, ↓reduceIte, Nat.reduceEqDiff, Nat.reduceAdd, Nat.reduceMul, Nat.reduceLT, Nat.reduceLeDiff, reduceCtorEq, Int.reduceLE, Int.reduceLT, ne_eq, Int.reduceEq, not_false_eq_true, decide_true, decide_false, Int.reduceToNat]
  repeat (first | refine C2.im (fun _ => c9 _ _) (fun _ => rfl) rfl ?_ | refine C2.im (fun _ => c10 _ _) (fun _ => rfl) rfl ?_); simp only [tl, tl2, isCallR, entX, argFr, ret, retI, retB, intT, unT, endR, ressR, resR, tupT, bslR, boxR, lenAll, ↓reduceIte, Nat.reduceEqDiff, Nat.reduceAdd, Nat.reduceMul, Nat.reduceLT, Nat.reduceLeDiff, reduceCtorEq, Int.reduceLE, Int.reduceLT, ne_eq, Int.reduceEq, not_false_eq_true, decide_true, decide_false, Int.reduceToNat]
  exact .imR (congrArg vB (by decide +kernel)) rfl

end Go.Proofs

