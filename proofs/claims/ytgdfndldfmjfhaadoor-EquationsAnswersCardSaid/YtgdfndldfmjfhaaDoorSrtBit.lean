import Derived.Test.YtgdfndldfmjfhaaDoorZzSrt
import Derived.Test.YtgdfndldfmjfhaaDoorBase
set_option linter.unusedSimpArgs false
set_option linter.unusedVariables false
namespace Go.Proofs
open Go Go.TL
open Go.TL.So
theorem len_wrap (k:UInt8):IntKind.i64.wrap (0 + IntKind.i64.wrap ((k.toNat:Nat):Int)) = (k.toNat:Int):=by
 have h:=k.toNat_lt
 rw [IntWalk.i64_in (k.toNat:Int) (by omega),IntWalk.i64_in _ (by omega)];omega
def L8 (n:Nat):Nat:=if n = 0 then 0 else Nat.log2 n + 1
theorem L8_ok (n:Nat) (h:n < 256):L8 n≤8∧n < 2 ^ L8 n∧(0 < n→2 ^ L8 n≤2 * n):=by
 unfold L8
 revert n
 decide +kernel
def L16 (n:Nat):Nat:=if n < 256 then L8 n else 8 + L8 (n / 256)
theorem L16_ok (n:Nat) (h:n < 65536):L16 n≤16∧n < 2 ^ L16 n∧(0 < n→2 ^ L16 n≤2 * n):=by
 unfold L16
 split
 ·rename_i h2
  obtain ⟨h3,h4,h5⟩:=L8_ok n h2
  exact ⟨by omega,h4,h5⟩
 ·rename_i h2
  obtain ⟨h3,h4,h5⟩:=L8_ok (n / 256) (by omega)
  rw [Nat.pow_add]
  have h6:=h5 (by omega)
  generalize 2 ^ L8 (n / 256) = p at *
  refine ⟨by omega,?_,fun _=>?_⟩ <;> omega
set_option maxRecDepth 100000 in
theorem c_math_bits_Len64 (n:Nat) (h:n < 65536):Spc Tryd.prog F_math_bits_Len64 [vU64 n] [] (vI (L16 n)) []:=by
 have d1:decide ((n:Int)≥4294967296) = false:=decide_eq_false (by omega)
 have d2:decide ((n:Int)≥65536) = false:=decide_eq_false (by omega)
 by_cases h8:n < 256
 ·have d3:decide ((n:Int)≥256) = false:=decide_eq_false (by omega)
  have hw:IntKind.u8.wrap (n:Int) = n:=by rw [IntKind.wrap_u8];omega
  rw [L16,if_pos h8]
  refine spec_of_ir fn_math_bits_Len64 mixm (by simp) fun e _ hst=>W_start ?_
  unfold ir_math_bits_Len64
  simp only [tl,tl2,tl4,↓un_u,isCallR,entX,argFr,ret,retI,retB,intT,unT,endR,ressR,resR,tupT,bslR,boxR,lenAll,↓reduceIte,Nat.reduceEqDiff,Nat.reduceAdd,Nat.reduceMul,Nat.reduceLT,Nat.reduceLeDiff,reduceCtorEq,Int.reduceLE,Int.reduceLT,ne_eq,Int.reduceEq,not_false_eq_true,decide_true,decide_false,Int.reduceToNat,tl3,Int.reduceBNe,Int.reduceBEq,rmK,rm1,not_true_eq_false,d1,d2,d3,hw,Int.toNat_natCast,len_wrap]
  refine ⟨⟨by omega,Int.ofNat_lt.2 h8⟩,.imR (congrArg (fun k:Nat=>vI (k:Int)) ?_) rfl⟩
  clear d1 d2 d3 hw h
  unfold L8
  revert n
  decide +kernel
 ·have d3:decide ((n:Int)≥256) = true:=decide_eq_true (by omega)
  have hs:shrI .u64 (n:Int) 8 = ((n / 256:Nat):Int):=by
   simp only [shrI]
   rw [show min (8:Int).toNat IntKind.u64.bits = 8 from rfl,show (2:Int) ^ 8 = 256 from rfl,Int.fdiv_eq_ediv_of_nonneg _ (by omega)]
   omega
  have hw:IntKind.u8.wrap ((n / 256:Nat):Int) = ((n / 256:Nat):Int):=by rw [IntKind.wrap_u8];omega
  have hw2:IntKind.i64.wrap (0 + 8) = 8:=by decide
  rw [L16,if_neg h8]
  refine spec_of_ir fn_math_bits_Len64 mixm (by simp) fun e _ hst=>W_start ?_
  unfold ir_math_bits_Len64
  simp only [tl,tl2,tl4,↓un_u,isCallR,entX,argFr,ret,retI,retB,intT,unT,endR,ressR,resR,tupT,bslR,boxR,lenAll,↓reduceIte,Nat.reduceEqDiff,Nat.reduceAdd,Nat.reduceMul,Nat.reduceLT,Nat.reduceLeDiff,reduceCtorEq,Int.reduceLE,Int.reduceLT,ne_eq,Int.reduceEq,not_false_eq_true,decide_true,decide_false,Int.reduceToNat,tl3,Int.reduceBNe,Int.reduceBEq,rmK,rm1,not_true_eq_false,d1,d2,d3,hs,hw,hw2,Int.toNat_natCast]
  have hm:n / 256 < 256:=by omega
  refine ⟨⟨by omega,Int.ofNat_lt.2 hm⟩,.imR (congrArg vI ?_) rfl⟩
  clear d1 d2 d3 hw hw2 hs h h8 hst
  generalize n / 256 = m at *
  unfold L8
  revert m
  decide +kernel
theorem c_math_bits_Len (n:Nat) (h:n < 65536):∃ l:Nat,(l≤16∧n < 2 ^ l∧(0 < n→2 ^ l≤2 * n))∧Spc Tryd.prog F_math_bits_Len [vU64 n] [] (vI l) []:=by
 have hs:=c_math_bits_Len64 n h
 refine ⟨L16 n,L16_ok n h,?_⟩
 refine spec_of_ir fn_math_bits_Len mixm (by simp) fun e _ hst=>W_start ?_
 unfold ir_math_bits_Len
 refine sW ?_
 refine C1.im hs (by rfl) (by rfl) ?_
 refine sW ?_
 exact .imR rfl rfl
theorem c_slices_nextPowerOfTwo (n:Nat) (h0:0 < n) (h:n < 65536):∃ p:Nat,(0 < p∧p≤2 * n)∧Spc Tryd.prog F_slices_nextPowerOfTwo [vI n] [] (vU64 p) []:=by
 obtain ⟨l,hl,hs⟩:=c_math_bits_Len n h
 refine ⟨2 ^ l,⟨Nat.pow_pos (by omega),hl.2.2 h0⟩,?_⟩
 have hw:IntKind.u64.wrap (n:Int) = n:=by rw [IntKind.wrap_u64];omega
 refine spec_of_ir fn_slices_nextPowerOfTwo mixm (by simp) fun e _ hst=>W_start ?_
 unfold ir_slices_nextPowerOfTwo
 simp only [tl,tl2,tl4,↓un_u,isCallR,entX,argFr,ret,retI,retB,intT,unT,endR,ressR,resR,tupT,bslR,boxR,lenAll,↓reduceIte,Nat.reduceEqDiff,Nat.reduceAdd,Nat.reduceMul,Nat.reduceLT,Nat.reduceLeDiff,reduceCtorEq,Int.reduceLE,Int.reduceLT,ne_eq,Int.reduceEq,not_false_eq_true,decide_true,decide_false,Int.reduceToNat,tl3,Int.reduceBNe,Int.reduceBEq,rmK,rm1,not_true_eq_false,hw]
 refine C1.im hs (by rfl) (by rfl) ?_
 refine sW ?_
 have h2:shlI .u64 1 (l:Int) = ((2 ^ l:Nat):Int):=by
  obtain ⟨h1,_,_⟩:=hl
  have:∀ l:Nat,l≤16→shlI .u64 1 (l:Int) = ((2 ^ l:Nat):Int):=by decide
  exact this l h1
 rw [h2]
 exact ⟨by omega,.imR rfl rfl⟩
def xs1 (v:Int):Int:=xorI .u64 v (shlI .u64 v 13)
def xs2 (v:Int):Int:=xorI .u64 v (shrI .u64 v 7)
def xs3 (v:Int):Int:=xorI .u64 v (shlI .u64 v 17)
theorem c_slices_xorshift_Next (v:Int):Spc Tryd.prog F_slices_xorshift_Next [.ptr 0 1 0 0] [(0,.arr 1 [vU64 v] false)] (vU64 (xs3 (xs2 (xs1 v)))) [(0,.arr 1 [vU64 (xs3 (xs2 (xs1 v)))] false)]:=by
 simp only [xs1,xs2,xs3]
 refine spec_of_ir fn_slices_xorshift_Next mixm (by simp) fun e _ hst=>W_start ?_
 unfold ir_slices_xorshift_Next
 refine sW ?_
 refine ⟨by kernel_rfl,by kernel_rfl,by kernel_rfl,?_⟩
 refine .of [(0,some 0)] [] rfl (by first | rfl | (rw [hst];rfl)) ?_ ?_
 all_goals (try exact clA)
theorem and_le (w:Int) {m:Int} (h0:0≤m) (h:m < 18446744073709551616):0≤andI .u64 w m∧andI .u64 w m≤m:=by
 unfold andI
 have h1:(BitVec.ofInt IntKind.u64.bits w &&& BitVec.ofInt IntKind.u64.bits m).toNat≤m.toNat:=by
  rw [BitVec.toNat_and]
  refine Nat.le_trans Nat.and_le_right ?_
  rw [show IntKind.u64.bits = 64 from rfl,BitVec.toNat_ofInt]
  omega
 generalize (BitVec.ofInt IntKind.u64.bits w &&& BitVec.ofInt IntKind.u64.bits m).toNat = x at *
 rw [IntKind.wrap_u64]
 omega
theorem _root_.Go.TL.C1.upd2 {P:Program} {e:Env} {kss:List (Nat×List Nat)} {Q:Ex→St→Prop} {K:List KF} {rows:Option (List Nat)} {ks:List Nat} {nid:Nat} {ops:List ROp} {F:XF} {acc:Acc} {st:Sto} {fid:FuncId} {xs caps ts':List T} {r:T} {d:Option Nat} (i1 k0 k1:Nat) (ys0 zs0 ys1 zs1:List T)
 (hs:Spc P fid ts' [(0,.arr k0 ys0 false),(1,.arr k1 ys1 false)] r [(0,.arr k0 zs0 false),(1,.arr k1 zs1 false)]) (hg:TL.get st 0 = some (.arr k0 ys0 false)) (hg1:TL.get st i1 = some (.arr k1 ys1 false)) (hne:¬ (0 = i1))
 (m0:ImXs k0 ys0) (m1:ImXs k0 zs0) (m2:ImXs k1 ys1) (m3:ImXs k1 zs1) (ha:ltAs st [(0,some 0),(1,some i1)] [] (xs ++ caps) ts') (h2:imTup r = true)
 (h:R P e kss Q rows ks K nid ops (putX F d (.p r)) (stUp st [(0,.arr k0 zs0 false),(i1,.arr k1 zs1 false)]) (acc ++ [([] ++ [(0,Ob.arr k0 zs0 false),(i1,Ob.arr k1 zs1 false)].map (·.1),[(0,Ob.arr k0 zs0 false),(i1,Ob.arr k1 zs1 false)].map (·.1))])):C1 P e kss Q rows ks K (.clo fid caps) xs d nid ops F st acc:=by
 refine C1.of [(0,some 0),(1,some i1)] [(0,some 0),(i1,some 1)] [] [(0,.arr k0 zs0 false),(i1,.arr k1 zs1 false)] hs ha (by simp [renOk,TL.get,hne]) ?_ (by rfl) (by simp [TL.get,hne]) ?_ (by simp [renOk,TL.get,hne]) (by rfl) (ltT_im h2) (.inl (by rfl)) h
 ·refine ⟨?_,?_,trivial⟩
  ·simp only [TL.get,if_true,ltO2,hg,ltO1]
   exact ⟨trivial,by simp,ltXs_refl m0,by simp⟩
  ·show ltO1 st _ [] k1 _ false i1 (TL.get st i1)
   rw [hg1]
   exact ⟨rfl,by simp,ltXs_refl m2,by simp⟩
 ·refine ⟨?_,?_,trivial⟩
  ·simp only [TL.get,if_true,wrO,ltO1]
   exact ⟨⟨trivial,by simp,ltXs_refl m1,by simp⟩,.inr ⟨trivial,rfl⟩⟩
  ·simp only [TL.get,if_true,wrO,ltO1,if_neg hne]
   exact ⟨⟨rfl,by simp,ltXs_refl m3,by simp⟩,.inr ⟨rfl,rfl⟩⟩
def rnd (v:Int):Int:=xs3 (xs2 (xs1 v))
def oth (n p:Nat) (v:Int):Nat:=if n≤(andI .u64 v ((p:Int) - 1)).toNat then (andI .u64 v ((p:Int) - 1)).toNat - n else (andI .u64 v ((p:Int) - 1)).toNat
theorem oth_lt {n p:Nat} (h0:0 < p) (h1:p≤2 * n) (h2:n < 65536) (v:Int):oth n p v < n:=by
 have:=and_le v (m:=(p:Int) - 1) (by omega) (by omega)
 unfold oth
 split <;> omega
def bk {α:Type} [Inhabited α] (a n p:Nat):Nat→Nat→Int→List α→List α
 | 0,_,_,xs=>xs
 | f + 1,i,v,xs=>bk a n p f (i + 1) (rnd v) (swp xs i (a + oth n p (rnd v)))
theorem bk_sw {α:Type} [Inhabited α] {a b p:Nat} (h0:0 < p) (h1:p≤2 * (b - a)) (h2:b - a < 65536):∀ (f i:Nat) (v:Int) (xs:List α),a≤i→i + f≤b→b≤xs.length→Sw a b xs (bk a (b - a) p f i v xs)
 | 0,_,_,xs,_,_,_=>.refl xs
 | f + 1,i,v,xs,h3,h4,h5=>by
   have h6:=oth_lt h0 h1 h2 (rnd v)
   have h7:Sw a b xs (swp xs i (a + oth (b - a) p (rnd v))):=Sw.one ⟨h3,by omega⟩ ⟨by omega,by omega⟩ h5
   exact h7.trans (bk_sw h0 h1 h2 f (i + 1) (rnd v) _ (by omega) (by omega) (by rw [h7.len];exact h5))
end Go.Proofs
