import Derived.Test.YtgdfndldfmjfhaaDoorBase
set_option linter.unusedSimpArgs false
set_option linter.unusedVariables false
namespace Go.Proofs
open Go Go.TL
def modI (n m:Int):Int:=if m < 1 then 0 else n % m
theorem c_draw_Mod (n m:Int) (hm:m≤1000000000):Spc Tryd.prog F_draw_Mod [vI n,vI m] [] (vI (modI n m)) []:=by
 refine spec_of_ir fn_draw_Mod mixm (by simp) fun e _ hst=>W_start ?_
 unfold ir_draw_Mod
 simp only [tl,tl2,tl4,↓un_u,isCallR,entX,argFr,ret,retI,retB,intT,unT,endR,ressR,resR,tupT,bslR,boxR,lenAll,↓reduceIte,Nat.reduceEqDiff,Nat.reduceAdd,Nat.reduceMul,Nat.reduceLT,Nat.reduceLeDiff,reduceCtorEq,Int.reduceLE,Int.reduceLT,ne_eq,Int.reduceEq,not_false_eq_true,decide_true,decide_false,Int.reduceToNat,tl3,Int.reduceBNe,Int.reduceBEq,rmK,rm1,not_true_eq_false,decide_eq_true_eq,decide_eq_false_iff_not]
 refine ⟨fun h=>?_,fun h=>?_⟩
 ·rw [modI,if_pos h]
  exact .imR rfl rfl
 rw [modI,if_neg h]
 have h1:=Int.tmod_lt_of_pos n (show 0 < m by omega)
 have h2:=Int.lt_tmod_of_pos n (show 0 < m by omega)
 have h3:=Int.emod_nonneg n (b:=m) (by omega)
 have h4:=Int.emod_lt_of_pos n (b:=m) (by omega)
 have h5:n % m = n.tmod m∨n % m = n.tmod m + m:=by
  rw [Int.tmod_eq_emod]
  split
  ·left;omega
  ·right
   rw [show (m.natAbs:Int) = m by omega]
   omega
 refine ⟨by omega,fun h=>?_,fun h=>?_⟩
 ·have hw:IntKind.i64.wrap (n.tmod m + m) = n % m:=by rw [IntWalk.i64_in _ (by omega)];omega
  rw [hw]
  exact .imR rfl rfl
 ·have hw:n.tmod m = n % m:=by omega
  rw [hw]
  exact .imR rfl rfl
end Go.Proofs
