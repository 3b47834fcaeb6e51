import Derived.Test.YtedgedggeogefaaBase
set_option linter.unusedSimpArgs false
set_option linter.unusedVariables false
namespace Go.Proofs
open Go Go.TL
theorem c_draw_Codes_Range (l:List UInt8) (at_:Nat) (lo hi:Int) (hl:l.length≤400) (ha:at_≤l.length) (hlo : -1000000≤lo∧lo≤1000000) (hhi:lo≤hi∧hi≤lo + 100000) :
 Spc Try.prog F_draw_Codes_Range [.ptr 0 1 0 0,vI lo,vI hi] [(0,oC l at_)] (vI (lo + (nx l at_ (hi - lo + 1)).1)) [(0,oC l (nx l at_ (hi - lo + 1)).2)]:=by
 refine spec_of_ir fn_draw_Codes_Range mixm (by simp) fun e _ hst=>W_start ?_
 unfold ir_draw_Codes_Range
 have hw1:IntKind.i64.wrap (hi - lo) = hi - lo:=IntWalk.i64_in _ (by omega)
 have hw2:IntKind.i64.wrap (hi - lo + 1) = hi - lo + 1:=IntWalk.i64_in _ (by omega)
 simp only [tl,tl2,tl4,↓un_u,isCallR,entX,argFr,ret,retI,retB,intT,unT,endR,ressR,resR,tupT,bslR,boxR,lenAll,↓reduceIte,Nat.reduceEqDiff,Nat.reduceAdd,Nat.reduceMul,Nat.reduceLT,Nat.reduceLeDiff,reduceCtorEq,Int.reduceLE,Int.reduceLT,ne_eq,Int.reduceEq,not_false_eq_true,decide_true,decide_false,Int.reduceToNat,tl3,Int.reduceBNe,Int.reduceBEq,rmK,rm1,not_true_eq_false,hw1,hw2]
 refine C1.draw 0 l at_ _ (c_draw_Codes_Next l at_ (hi - lo + 1) hl ha (by omega)) rfl rfl rfl ?_
 have hr:=nx_range l at_ (hi - lo + 1) (by omega)
 have hw3:IntKind.i64.wrap (lo + (nx l at_ (hi - lo + 1)).1) = lo + (nx l at_ (hi - lo + 1)).1:=IntWalk.i64_in _ (by omega)
 simp only [tl,tl2,tl4,↓un_u,isCallR,entX,argFr,ret,retI,retB,intT,unT,endR,ressR,resR,tupT,bslR,boxR,lenAll,↓reduceIte,Nat.reduceEqDiff,Nat.reduceAdd,Nat.reduceMul,Nat.reduceLT,Nat.reduceLeDiff,reduceCtorEq,Int.reduceLE,Int.reduceLT,ne_eq,Int.reduceEq,not_false_eq_true,decide_true,decide_false,Int.reduceToNat,tl3,Int.reduceBNe,Int.reduceBEq,rmK,rm1,not_true_eq_false,hw3]
 refine .of [(0,some 0)] [] rfl rfl ?_ ?_
 ·simp only [ltSto,ltO2,ltO1,ltAs,ltA,ltC,ltC0,ltC0s,ltCs,ltT,ltFr,ltS,wrOk,wrO,TL.get,hasFr,↓reduceIte,Nat.reduceEqDiff,reduceCtorEq,Option.getD_some,Option.isSome_some,List.length_map,List.length_append,List.length_cons,List.length_nil,List.append_nil,List.mem_singleton,List.mem_cons,List.not_mem_nil,and_true,true_and,and_self,imp_self,forall_const,false_implies,implies_true,true_implies,or_false,Bool.false_eq_true,Bool.true_eq_false,ImXs_nil,true_or,or_true,false_or,false_and,and_false,rmK,rm1]
  exact ltXs_cons ⟨rfl,rfl,rfl,rfl,trivial⟩ ltXs_nil
 ·simp only [ltSto,ltO2,ltO1,ltAs,ltA,ltC,ltC0,ltC0s,ltCs,ltT,ltFr,ltS,wrOk,wrO,TL.get,hasFr,↓reduceIte,Nat.reduceEqDiff,reduceCtorEq,Option.getD_some,Option.isSome_some,List.length_map,List.length_append,List.length_cons,List.length_nil,List.append_nil,List.mem_singleton,List.mem_cons,List.not_mem_nil,and_true,true_and,and_self,imp_self,forall_const,false_implies,implies_true,true_implies,or_false,Bool.false_eq_true,Bool.true_eq_false,ImXs_nil,true_or,or_true,false_or,false_and,and_false,rmK,rm1]
end Go.Proofs
