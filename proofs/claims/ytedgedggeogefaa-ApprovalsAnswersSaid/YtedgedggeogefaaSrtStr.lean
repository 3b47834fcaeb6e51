import Derived.Test.YtedgedggeogefaaZzSrt
import Derived.Test.YtedgedggeogefaaBase
import Derived.Test.YtedgedggeogefaaStr
set_option linter.unusedSimpArgs false
set_option linter.unusedVariables false
namespace Go.Proofs
open Go Go.TL
open Go.TL.So
def lsT (a b:ByteArray):Bool:=Op.bytesLess a.toList b.toList
theorem c_isNaN_S (s:ByteArray):Spc Try.prog F_cmp_isNaN_string [vS s] [] (vB false) []:=by
 refine spec_of_ir fn_cmp_isNaN_string mixm (by simp) fun e _ hst=>W_start ?_
 unfold ir_cmp_isNaN_string
 simp only [tl,tl2,tl4,↓un_u,isCallR,entX,argFr,ret,retI,retB,intT,unT,endR,ressR,resR,tupT,bslR,boxR,lenAll,↓reduceIte,Nat.reduceEqDiff,Nat.reduceAdd,Nat.reduceMul,Nat.reduceLT,Nat.reduceLeDiff,reduceCtorEq,Int.reduceLE,Int.reduceLT,ne_eq,Int.reduceEq,not_false_eq_true,decide_true,decide_false,Int.reduceToNat,tl3,Int.reduceBNe,Int.reduceBEq,rmK,rm1,not_true_eq_false,bne_self_eq_false]
 refine .of [] [] rfl (by first | rfl | (rw [hst];rfl)) ?_ ?_
 all_goals (try exact clA)
theorem c_cmp_Less_string (a b:ByteArray):Spc Try.prog F_cmp_Less_string [vS a,vS b] [] (vB (lsT a b)) []:=by
 refine spec_of_ir fn_cmp_Less_string mixm (by simp) fun e _ hst=>W_start ?_
 unfold ir_cmp_Less_string
 simp only [tl,tl2,tl4,↓un_u,isCallR,entX,argFr,ret,retI,retB,intT,unT,endR,ressR,resR,tupT,bslR,boxR,lenAll,↓reduceIte,Nat.reduceEqDiff,Nat.reduceAdd,Nat.reduceMul,Nat.reduceLT,Nat.reduceLeDiff,reduceCtorEq,Int.reduceLE,Int.reduceLT,ne_eq,Int.reduceEq,not_false_eq_true,decide_true,decide_false,Int.reduceToNat,tl3,Int.reduceBNe,Int.reduceBEq,rmK,rm1,not_true_eq_false]
 refine C1.im (c_isNaN_S a) (by rfl) (by rfl) ?_
 simp only [tl,tl2,tl4,↓un_u,isCallR,entX,argFr,ret,retI,retB,intT,unT,endR,ressR,resR,tupT,bslR,boxR,lenAll,↓reduceIte,Nat.reduceEqDiff,Nat.reduceAdd,Nat.reduceMul,Nat.reduceLT,Nat.reduceLeDiff,reduceCtorEq,Int.reduceLE,Int.reduceLT,ne_eq,Int.reduceEq,not_false_eq_true,decide_true,decide_false,Int.reduceToNat,tl3,Int.reduceBNe,Int.reduceBEq,rmK,rm1,not_true_eq_false]
 refine C2.no (by simp) ?_
 simp only [tl,tl2,tl4,↓un_u,isCallR,entX,argFr,ret,retI,retB,intT,unT,endR,ressR,resR,tupT,bslR,boxR,lenAll,↓reduceIte,Nat.reduceEqDiff,Nat.reduceAdd,Nat.reduceMul,Nat.reduceLT,Nat.reduceLeDiff,reduceCtorEq,Int.reduceLE,Int.reduceLT,ne_eq,Int.reduceEq,not_false_eq_true,decide_true,decide_false,Int.reduceToNat,tl3,Int.reduceBNe,Int.reduceBEq,rmK,rm1,not_true_eq_false]
 refine .of [] [] rfl (by first | rfl | (rw [hst];rfl)) ?_ ?_
 all_goals (try exact clA)
theorem lsT_ord:SWOrd lsT:=⟨fun x y h=>bl_asym h,fun x y z h1 h2=>by
 show Op.bytesLess z.toList x.toList = false
 have h1':Op.bytesLess y.toList x.toList = false:=h1
 have h2':Op.bytesLess z.toList y.toList = false:=h2
 cases h:Op.bytesLess z.toList x.toList with
 | false=>rfl
 | true=>
   by_cases e:y.toList = x.toList
   ·rw [e] at h2';rw [h2'] at h;cases h
   ·have:=bl_trans h (bl_tri h1' e)
    rw [this] at h2';cases h2'⟩
end Go.Proofs
