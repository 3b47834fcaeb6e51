import Derived.Test.YtgdfndldfmjfhaaDoorY29
import Derived.Test.YtgdfndldfmjfhaaDoorX29
set_option linter.unusedSimpArgs false
set_option linter.unusedVariables false
namespace Go.Proofs
open Go Go.TL
set_option maxRecDepth 4000
theorem c_ref29_Reduce (count:Int) (l:List Eqn) (hl:l.length < 4611686018427387904) (hx:∀ x∈l,x.cells.length < 4611686018427387904) :
 Spc Tryd.prog F_ref29_Reduce [vI count,vQs l] [] (.tup [vQs (redA count l).1,vI (redA count l).2]) []:=by
 refine spec_of_ir fn_ref29_Reduce mixm (by simp) fun e _ hst=>W_start ?_
 unfold ir_ref29_Reduce
 refine sW ?_
 refine C1.shut [] (c_ref29_Valid count l hl hx) ?_ (by rfl) rfl ?_
 ·all_goals (try exact clA)
 simp only [tl,tl2,tl4,↓un_u,isCallR,entX,argFr,ret,retI,retB,intT,unT,endR,ressR,resR,tupT,bslR,boxR,lenAll,↓reduceIte,Nat.reduceEqDiff,Nat.reduceAdd,Nat.reduceMul,Nat.reduceLT,Nat.reduceLeDiff,reduceCtorEq,Int.reduceLE,Int.reduceLT,ne_eq,Int.reduceEq,not_false_eq_true,decide_true,decide_false,Int.reduceToNat,tl3,Int.reduceBNe,Int.reduceBEq,rmK,rm1,not_true_eq_false,Bool.not_eq_true',Bool.not_eq_false']
 refine ⟨fun h=>?_,fun h=>?_⟩
 ·rw [redA,if_pos h]
  refine .of [] [] rfl (by first | rfl | (rw [hst];rfl)) ?_ ?_
  all_goals (try exact clA)
 rw [redA,if_neg (by rw [h];simp)]
 obtain ⟨v1,v2,v3,v4⟩:=valid_parts h
 refine W_loopF mixm (α:=Nat×List Eqn) [6,18] (fun q=>q.1≤l.length∧q.2.length≤q.1∧(∀ p∈q.2,p∈l)∧redF l [] = redF (l.drop q.1) q.2) (fun q=>[(6,.asl 1 q.2.length),(18,vI q.1)]) (fun q=>[(1,.arr 2 (q.2.map eqnT) false)]) (fun q=>l.length - q.1) (0,[]) ⟨by simp,by simp,by simp,by simp⟩ ?_ fun q hq=>?_
 ·simp only [List.map_nil]
  refine .of [(1,none)] [] rfl (by first | rfl | (rw [hst];rfl)) ?_ ?_
  all_goals (try exact clA)
 obtain ⟨i,o⟩:=q
 obtain ⟨hi,ho1,ho2,ho3⟩:=hq
 dsimp only at hi ho1 ho2 ho3
 refine sD ?_
 refine ⟨fun h3=>?_,fun h3=>?_⟩
 ·have hd2:=List.drop_eq_getElem_cons (show i < l.length by omega)
  rw [hd2,redF] at ho3
  have hxi:=hx _ (List.getElem_mem (show i < l.length by omega))
  have hxm:=List.getElem_mem (show i < l.length by omega)
  have hwi:=i64_succ (i:=i) (by omega)
  have hi2:i < l.length:=by omega
  have hwi:=i64_succ (i:=i) (by omega)
  simp only [tl,tl2,tl4,↓un_u,isCallR,entX,argFr,ret,retI,retB,intT,unT,endR,ressR,resR,tupT,bslR,boxR,lenAll,↓reduceIte,Nat.reduceEqDiff,Nat.reduceAdd,Nat.reduceMul,Nat.reduceLT,Nat.reduceLeDiff,reduceCtorEq,Int.reduceLE,Int.reduceLT,ne_eq,Int.reduceEq,not_false_eq_true,decide_true,decide_false,Int.reduceToNat,tl3,Int.reduceBNe,Int.reduceBEq,rmK,rm1,not_true_eq_false,Int.toNat_natCast,getD_mapT hi2,hwi]
  refine ⟨by omega,?_⟩
  generalize l[i] = x at *
  refine W_loopF mixm (α:=Nat) [9,24] (fun k=>k≤o.length∧(o.take k).any (fun p=>p.cells == x.cells && p.val != x.val) = false) (fun k=>[(9,vB ((o.take k).any fun p=>p.cells == x.cells)),(24,vI k)]) (fun k=>[(1,.arr 2 (o.map eqnT) false),(28680,.arr 2 [eqnT x] false)]) (fun k=>o.length - k) 0 ⟨by omega,rfl⟩ ?_ fun k hk=>?_
  ·simp only [List.take_zero,List.any_nil]
   refine .of [(1,some 1),(28680,some 28680)] [] rfl (by first | rfl | (rw [hst];rfl)) ?_ ?_
   all_goals (try exact clA)
  obtain ⟨hk1,hk2⟩:=hk
  refine sD ?_
  refine ⟨fun h4=>?_,fun h4=>?_⟩
  ·have hk3:k < o.length:=by omega
   have hwk:=i64_succ (i:=k) (by omega)
   have hpm:=hx _ (ho2 _ (List.getElem_mem hk3))
   have hI:=c_ref28_Ints (o[k]'hk3).cells x.cells hpm hxi
   rw [ints_beq] at hI
   have hs1:(o.take (k + 1)).any (fun p=>p.cells == x.cells) = ((o.take k).any (fun p=>p.cells == x.cells) || (o[k].cells == x.cells)):=by
    rw [take_snoc hk3,List.any_append];simp
   have hs2:(o.take (k + 1)).any (fun p=>p.cells == x.cells && p.val != x.val) = (o[k].cells == x.cells && o[k].val != x.val):=by
    rw [take_snoc hk3,List.any_append,hk2];simp
   simp only [tl,tl2,tl4,↓un_u,isCallR,entX,argFr,ret,retI,retB,intT,unT,endR,ressR,resR,tupT,bslR,boxR,lenAll,↓reduceIte,Nat.reduceEqDiff,Nat.reduceAdd,Nat.reduceMul,Nat.reduceLT,Nat.reduceLeDiff,reduceCtorEq,Int.reduceLE,Int.reduceLT,ne_eq,Int.reduceEq,not_false_eq_true,decide_true,decide_false,Int.reduceToNat,tl3,Int.reduceBNe,Int.reduceBEq,rmK,rm1,not_true_eq_false,Int.toNat_natCast,getD_mapT hk3]
   refine ⟨by omega,hk3,C1.im hI rfl (by rfl) ?_⟩
   simp only [tl,tl2,tl4,↓un_u,isCallR,entX,argFr,ret,retI,retB,intT,unT,endR,ressR,resR,tupT,bslR,boxR,lenAll,↓reduceIte,Nat.reduceEqDiff,Nat.reduceAdd,Nat.reduceMul,Nat.reduceLT,Nat.reduceLeDiff,reduceCtorEq,Int.reduceLE,Int.reduceLT,ne_eq,Int.reduceEq,not_false_eq_true,decide_true,decide_false,Int.reduceToNat,tl3,Int.reduceBNe,Int.reduceBEq,rmK,rm1,not_true_eq_false,hwk]
   refine ⟨fun h5=>?_,fun h5=>?_⟩
   ·rw [h5,Bool.or_true] at hs1
    rw [h5,Bool.true_and] at hs2
    refine ⟨fun h6=>?_,fun h6=>?_⟩
    ·have hn:redS o x = none:=by
      rw [redS,if_pos (List.any_eq_true.2 ⟨_,List.getElem_mem hk3,by rw [h5,Bool.true_and];exact h6⟩)]
     rw [hn] at ho3
     rw [ho3]
     refine .of [] [] rfl (by first | rfl | (rw [hst];rfl)) ?_ ?_
     all_goals (try exact clA)
    ·refine ⟨k + 1,⟨by omega,hs2.trans h6⟩,by omega,?_⟩
     rw [hs1]
     refine .of [(1,some 1),(28680,some 28680)] [] rfl (by first | rfl | (rw [hst];rfl)) ?_ ?_
     all_goals (try exact clA)
   ·rw [h5,Bool.or_false] at hs1
    rw [h5,Bool.false_and] at hs2
    refine ⟨k + 1,⟨by omega,hs2⟩,by omega,?_⟩
    rw [hs1]
    refine .of [(1,some 1),(28680,some 28680)] [] rfl (by first | rfl | (rw [hst];rfl)) ?_ ?_
    all_goals (try exact clA)
  ·have hko:k = o.length:=by omega
   subst hko
   rw [List.take_length] at hk2 ⊢
   simp only [tl,tl2,tl4,↓un_u,isCallR,entX,argFr,ret,retI,retB,intT,unT,endR,ressR,resR,tupT,bslR,boxR,lenAll,↓reduceIte,Nat.reduceEqDiff,Nat.reduceAdd,Nat.reduceMul,Nat.reduceLT,Nat.reduceLeDiff,reduceCtorEq,Int.reduceLE,Int.reduceLT,ne_eq,Int.reduceEq,not_false_eq_true,decide_true,decide_false,Int.reduceToNat,tl3,Int.reduceBNe,Int.reduceBEq,rmK,rm1,not_true_eq_false,hwi,Bool.not_eq_true',Bool.not_eq_false']
   refine ⟨fun h5=>?_,fun h5=>?_⟩
   ·have hn:redS o x = some (o ++ [x]):=by rw [redS,if_neg (by rw [hk2];simp),if_neg (by rw [h5];simp)]
    rw [hn] at ho3
    refine ⟨by omega,(i + 1,o ++ [x]),⟨by dsimp only;omega,by simp;omega,?_,ho3⟩,by dsimp only;omega,?_⟩
    ·intro p hp
     rcases List.mem_append.1 hp with hp | hp
     ·exact ho2 p hp
     ·rw [List.mem_singleton.1 hp];exact hxm
    ·rw [show List.map eqnT o ++ [T.agg [vIs x.cells,vI x.val]] = (o ++ [x]).map eqnT by simp,show o.length + 1 = (o ++ [x]).length by simp]
     generalize o ++ [x] = o2
     refine .of [(1,some 1)] [] rfl (by first | rfl | (rw [hst];rfl)) ?_ ?_
     all_goals (try exact clA)
   ·have hn:redS o x = some o:=by rw [redS,if_neg (by rw [hk2];simp),if_pos h5]
    rw [hn] at ho3
    refine ⟨(i + 1,o),⟨by dsimp only;omega,by dsimp only;omega,ho2,ho3⟩,by dsimp only;omega,?_⟩
    refine .of [(1,some 1)] [] rfl (by first | rfl | (rw [hst];rfl)) ?_ ?_
    all_goals (try exact clA)
 ·have hil:i = l.length:=by omega
  subst hil
  rw [List.drop_length,redF] at ho3
  rw [ho3]
  refine .of [] [1] rfl (by first | rfl | (rw [hst];rfl)) ?_ ?_
  all_goals (try exact clA)
end Go.Proofs
