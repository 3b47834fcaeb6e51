import Derived.Test.YtgdfndldfmjfhaaDoorZzIns
import Derived.Test.YtgdfndldfmjfhaaDoorBase
set_option linter.unusedSimpArgs false
set_option linter.unusedVariables false
namespace Go.Proofs
open Go Go.TL
open Go.TL.So
theorem c_isNaN_I (n:Int):Spc Tryd.prog F_cmp_isNaN_int [vI n] [] (vB false) []:=by
 refine spec_of_ir fn_cmp_isNaN_int mixm (by simp) fun e _ hst=>W_start ?_
 unfold ir_cmp_isNaN_int
 simp only [tl,tl2,tl4,↓un_u,isCallR,entX,argFr,ret,retI,retB,intT,unT,endR,ressR,resR,tupT,bslR,boxR,lenAll,↓reduceIte,Nat.reduceEqDiff,Nat.reduceAdd,Nat.reduceMul,Nat.reduceLT,Nat.reduceLeDiff,reduceCtorEq,Int.reduceLE,Int.reduceLT,ne_eq,Int.reduceEq,not_false_eq_true,decide_true,decide_false,Int.reduceToNat,tl3,Int.reduceBNe,Int.reduceBEq,rmK,rm1,not_true_eq_false,bne_self_eq_false]
 refine .of [] [] rfl (by first | rfl | (rw [hst];rfl)) ?_ ?_
 all_goals (try exact clA)
theorem c_cmp_Less_int (a b:Int):Spc Tryd.prog F_cmp_Less_int [vI a,vI b] [] (vB (ltI a b)) []:=by
 refine spec_of_ir fn_cmp_Less_int mixm (by simp) fun e _ hst=>W_start ?_
 unfold ir_cmp_Less_int
 refine sW ?_
 refine C1.im (c_isNaN_I a) (by rfl) (by rfl) ?_
 refine sW ?_
 refine C2.no (by simp) ?_
 refine sW ?_
 refine .of [] [] rfl (by first | rfl | (rw [hst];rfl)) ?_ ?_
 all_goals (try exact clA)
end Go.Proofs
