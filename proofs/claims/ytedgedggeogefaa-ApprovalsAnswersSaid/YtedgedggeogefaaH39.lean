import Derived.Test.YtedgedggeogefaaG39
set_option linter.unusedSimpArgs false
set_option linter.unusedVariables false
namespace Go.Proofs
open Go Go.TL
theorem c_slices_Clone_Approval (l:List App) (hl:l.length < 1000000000000):Spc Try.prog F_slices_Clone_Approval [.sl 4 (l.map appT)] [] (.asl 0 l.length) [(0,.arr 4 (l.map appT) false)]:=by
 refine spec_of_ir fn_slices_Clone_Approval mixm (by simp) fun e _ hst=>W_start ?_
 unfold ir_slices_Clone_Approval
 simp only [tl,tl2,tl4,↓un_u,isCallR,entX,argFr,ret,retI,retB,intT,unT,endR,ressR,resR,tupT,bslR,boxR,lenAll,↓reduceIte,Nat.reduceEqDiff,Nat.reduceAdd,Nat.reduceMul,Nat.reduceLT,Nat.reduceLeDiff,reduceCtorEq,Int.reduceLE,Int.reduceLT,ne_eq,Int.reduceEq,not_false_eq_true,decide_true,decide_false,Int.reduceToNat,tl3,Int.reduceBNe,Int.reduceBEq,rmK,rm1,not_true_eq_false]
 refine ⟨fun h=>?_,?_⟩
 ·have:l = []:=by
   simpa using h
  subst this
  refine .of [(0,none)] [] rfl (by first | rfl | (rw [hst];rfl)) ?_ ?_
  all_goals (try exact clA)
 ·refine ⟨by omega,?_⟩
  refine .of [(0,some 16384)] [] rfl (by first | rfl | (rw [hst];rfl)) ?_ ?_
  all_goals (try exact clA)
abbrev cutU (x:App) (t:Int):App:=⟨x.proj,x.res,x.fr,t⟩
def endA (l:List App) (p:ByteArray) (t:Int):List App×Int:=
 if chkA l≠0 then (l,chkA l)
 else if l.any (atA p t) = true then
  (if (l.getD (l.findIdx (atA p t)) default).fr = t then (l.eraseIdx (l.findIdx (atA p t)),0) else (l.set (l.findIdx (atA p t)) (cutU (l.getD (l.findIdx (atA p t)) default) t),0))
 else (l,54)
abbrev pairT (r:List App×Int):T:=.tup [.asl 0 r.1.length,vI r.2]
abbrev pairS (r:List App×Int):Sto:=[(0,.arr 4 (r.1.map appT) false)]
theorem c_approvals_End (l:List App) (p:ByteArray) (t:Int) (hl:l.length < 1000000000000):Spc Try.prog F_approvals_End [vAs l,vS p,vI t] [] (pairT (endA l p t)) (pairS (endA l p t)):=by
 have hck:=c_approvals_Check l (by omega)
 have hfd:=c_approvals_find l p t (by omega)
 refine spec_of_ir fn_approvals_End mixm (by simp) fun e _ hst=>W_start ?_
 unfold ir_approvals_End
 simp only [tl,tl2,tl4,↓un_u,isCallR,entX,argFr,ret,retI,retB,intT,unT,endR,ressR,resR,tupT,bslR,boxR,lenAll,↓reduceIte,Nat.reduceEqDiff,Nat.reduceAdd,Nat.reduceMul,Nat.reduceLT,Nat.reduceLeDiff,reduceCtorEq,Int.reduceLE,Int.reduceLT,ne_eq,Int.reduceEq,not_false_eq_true,decide_true,decide_false,Int.reduceToNat,tl3,Int.reduceBNe,Int.reduceBEq,rmK,rm1,not_true_eq_false]
 refine C1.fresh 8196 (c_slices_Clone_Approval l hl) rfl (by apply imXs_map;intro _;exact ⟨rfl,rfl⟩) (by rfl) ?_
 simp only [tl,tl2,tl4,↓un_u,isCallR,entX,argFr,ret,retI,retB,intT,unT,endR,ressR,resR,tupT,bslR,boxR,lenAll,↓reduceIte,Nat.reduceEqDiff,Nat.reduceAdd,Nat.reduceMul,Nat.reduceLT,Nat.reduceLeDiff,reduceCtorEq,Int.reduceLE,Int.reduceLT,ne_eq,Int.reduceEq,not_false_eq_true,decide_true,decide_false,Int.reduceToNat,tl3,Int.reduceBNe,Int.reduceBEq,rmK,rm1,not_true_eq_false]
 refine C1.im hck rfl (by rfl) ?_
 simp only [tl,tl2,tl4,↓un_u,isCallR,entX,argFr,ret,retI,retB,intT,unT,endR,ressR,resR,tupT,bslR,boxR,lenAll,↓reduceIte,Nat.reduceEqDiff,Nat.reduceAdd,Nat.reduceMul,Nat.reduceLT,Nat.reduceLeDiff,reduceCtorEq,Int.reduceLE,Int.reduceLT,ne_eq,Int.reduceEq,not_false_eq_true,decide_true,decide_false,Int.reduceToNat,tl3,Int.reduceBNe,Int.reduceBEq,rmK,rm1,not_true_eq_false,bne_iff_ne,bne_eq_false_iff_eq]
 refine ⟨fun h=>?_,fun h=>?_⟩
 ·rw [endA,if_pos h]
  refine .of [(0,some 8196)] [] rfl (by first | rfl | (rw [hst];rfl)) ?_ ?_
  all_goals (try exact clA)
 refine C1.im hfd rfl (by rfl) ?_
 simp only [tl,tl2,tl4,↓un_u,isCallR,entX,argFr,ret,retI,retB,intT,unT,endR,ressR,resR,tupT,bslR,boxR,lenAll,↓reduceIte,Nat.reduceEqDiff,Nat.reduceAdd,Nat.reduceMul,Nat.reduceLT,Nat.reduceLeDiff,reduceCtorEq,Int.reduceLE,Int.reduceLT,ne_eq,Int.reduceEq,not_false_eq_true,decide_true,decide_false,Int.reduceToNat,tl3,Int.reduceBNe,Int.reduceBEq,rmK,rm1,not_true_eq_false]
 by_cases hf:l.any (atA p t) = true
 ·obtain ⟨hlt,hfi⟩:=find_idx hf
  have hid:findI l p t = (l.findIdx (atA p t):Nat):=by rw [findI,idxI,if_pos hf]
  generalize hk:l.findIdx (atA p t) = k at *
  have hw:=i64_succ (i:=k) (by omega)
  have hgd:l.getD k default = l[k]:=getD_get hlt
  simp only [hid]
  have hg:decide ((k:Int) < 0) = false:=by simp
  simp only [tl,tl2,tl4,↓un_u,isCallR,entX,argFr,ret,retI,retB,intT,unT,endR,ressR,resR,tupT,bslR,boxR,lenAll,↓reduceIte,Nat.reduceEqDiff,Nat.reduceAdd,Nat.reduceMul,Nat.reduceLT,Nat.reduceLeDiff,reduceCtorEq,Int.reduceLE,Int.reduceLT,ne_eq,Int.reduceEq,not_false_eq_true,decide_true,decide_false,Int.reduceToNat,tl3,Int.reduceBNe,Int.reduceBEq,rmK,rm1,not_true_eq_false,hg,List.length_map,Int.toNat_natCast,getD_mapT hlt,beq_iff_eq,beq_eq_false_iff_ne,hw]
  refine ⟨by omega,hlt,fun h3=>?_,fun h3=>?_⟩
  ·have he:endA l p t = (l.eraseIdx k,0):=by rw [endA,if_neg (by rw [h];simp),if_pos hf,hk,hgd,if_pos h3]
   have hdl:=c_slices_Delete_Approval l k hlt (by omega)
   rw [he]
   refine C1.cutback 8196 40976 4 [] hdl rfl (by apply imXs_map;intro _;exact ⟨rfl,rfl⟩) (by apply imXs_map;intro _;exact ⟨rfl,rfl⟩) (by apply noA_map;intro _;rfl) (by rfl) ?_ (by rfl) ?_
   ·all_goals (try exact clA)
   simp only [tl,tl2,tl4,↓un_u,isCallR,entX,argFr,ret,retI,retB,intT,unT,endR,ressR,resR,tupT,bslR,boxR,lenAll,↓reduceIte,Nat.reduceEqDiff,Nat.reduceAdd,Nat.reduceMul,Nat.reduceLT,Nat.reduceLeDiff,reduceCtorEq,Int.reduceLE,Int.reduceLT,ne_eq,Int.reduceEq,not_false_eq_true,decide_true,decide_false,Int.reduceToNat,tl3,Int.reduceBNe,Int.reduceBEq,rmK,rm1,not_true_eq_false]
   have hel:(l.eraseIdx k).length = l.length - 1:=List.length_eraseIdx_of_lt hlt
   simp only [pairT,pairS,hel]
   refine .of [(0,some 40976)] [] rfl (by first | rfl | (rw [hst];rfl)) ?_ ?_
   all_goals (try exact clA)
  ·have he:endA l p t = (l.set k (cutU l[k] t),0):=by rw [endA,if_neg (by rw [h];simp),if_pos hf,hk,hgd,if_neg h3]
   rw [he]
   have hset:(List.map appT l).set k (T.agg [vS l[k].proj,vS l[k].res,vI l[k].fr,vI t]) = (l.set k (cutU l[k] t)).map appT:=by rw [List.map_set]
   refine ⟨by omega,hlt,?_⟩
   rw [hset]
   simp only [pairT,pairS,List.length_set]
   refine .of [(0,some 8196)] [] rfl (by first | rfl | (rw [hst];rfl)) ?_ ?_
   all_goals (try exact clA)
 ·have hid:findI l p t = -1:=by rw [findI,idxI,if_neg hf]
  simp only [hid]
  simp only [tl,tl2,tl4,↓un_u,isCallR,entX,argFr,ret,retI,retB,intT,unT,endR,ressR,resR,tupT,bslR,boxR,lenAll,↓reduceIte,Nat.reduceEqDiff,Nat.reduceAdd,Nat.reduceMul,Nat.reduceLT,Nat.reduceLeDiff,reduceCtorEq,Int.reduceLE,Int.reduceLT,ne_eq,Int.reduceEq,not_false_eq_true,decide_true,decide_false,Int.reduceToNat,tl3,Int.reduceBNe,Int.reduceBEq,rmK,rm1,not_true_eq_false]
  rw [endA,if_neg (by rw [h];simp),if_neg hf]
  refine .of [(0,some 8196)] [] rfl (by first | rfl | (rw [hst];rfl)) ?_ ?_
  all_goals (try exact clA)
end Go.Proofs
