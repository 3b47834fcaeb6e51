import Derived.Test.YtedgedggeogefaaD39
set_option linter.unusedSimpArgs false
set_option linter.unusedVariables false
namespace Go.Proofs
open Go Go.TL
def errA (l:List App) (i:Nat) (x:App):Int:=
 if singleI x≠0 then singleI x else if 0 < i∧cmpA (l.getD (i - 1) default) x≥0 then 11 else if (l.take i).any (ovA x) = true then 10 else 0
def chkN (l:List App):Nat→Int
 | 0=>0
 | n + 1=>if chkN l n≠0 then chkN l n else errA l n (l.getD n default)
def chkA (l:List App):Int:=if l.length > 60 then 1 else chkN l l.length
theorem chkN_next {l:List App} {i:Nat} (h:i < l.length) (h0:chkN l i = 0):chkN l (i + 1) = errA l i l[i]:=by
 simp only [chkN,h0]
 rw [if_neg (by simp),getD_get h]
theorem chkN_stays {l:List App} {i:Nat} (h:chkN l i≠0):∀ n,i≤n→chkN l n = chkN l i
 | 0,hn=>by rw [show i = 0 by omega]
 | n + 1,hn=>by
   by_cases e:i = n + 1
   ·rw [e]
   ·have ih:=chkN_stays h n (by omega)
    simp only [chkN]
    rw [if_pos (by rw [ih];exact h),ih]
theorem c_approvals_Check (l:List App) (hl:l.length < 4611686018427387904):Spc Try.prog F_approvals_Check [vAs l] [] (vI (chkA l)) []:=by
 refine spec_of_ir fn_approvals_Check mixm (by simp) fun e _ hst=>W_start ?_
 unfold ir_approvals_Check
 simp only [tl,tl2,tl4,↓un_u,isCallR,entX,argFr,ret,retI,retB,intT,unT,endR,ressR,resR,tupT,bslR,boxR,lenAll,↓reduceIte,Nat.reduceEqDiff,Nat.reduceAdd,Nat.reduceMul,Nat.reduceLT,Nat.reduceLeDiff,reduceCtorEq,Int.reduceLE,Int.reduceLT,ne_eq,Int.reduceEq,not_false_eq_true,decide_true,decide_false,Int.reduceToNat,tl3,Int.reduceBNe,Int.reduceBEq,rmK,rm1,not_true_eq_false,decide_eq_true_eq,decide_eq_false_iff_not,Bool.or_eq_true,Bool.or_eq_false_iff,Bool.and_eq_true,Bool.and_eq_false_iff]
 refine ⟨fun h=>?_,fun h=>?_⟩
 ·rw [chkA,if_pos (by omega)]
  refine .of [] [] rfl (by first | rfl | (rw [hst];rfl)) ?_ ?_
  all_goals (try exact clA)
 rw [chkA,if_neg (by omega)]
 refine W_loopF mixm (α:=Nat) [11] (fun i=>i≤l.length∧(chkN l i = 0)) (fun i=>[(11,vI i)]) (fun i=>[]) (fun i=>l.length - i) 0 ⟨by omega,?_⟩ ?_ fun i hi=>?_
 ·rfl
 ·refine .of [] [] rfl (by first | rfl | (rw [hst];rfl)) ?_ ?_
  all_goals (try exact clA)
 simp only [tl,tl2,tl4,↓un_u,isCallR,entX,argFr,ret,retI,retB,intT,unT,endR,ressR,resR,tupT,bslR,boxR,lenAll,↓reduceIte,Nat.reduceEqDiff,Nat.reduceAdd,Nat.reduceMul,Nat.reduceLT,Nat.reduceLeDiff,reduceCtorEq,Int.reduceLE,Int.reduceLT,ne_eq,Int.reduceEq,not_false_eq_true,decide_true,decide_false,Int.reduceToNat,tl3,Int.reduceBNe,Int.reduceBEq,rmK,rm1,not_true_eq_false,decide_eq_true_eq,decide_eq_false_iff_not]
 refine ⟨fun h=>?_,fun h=>?_⟩
 ·have hi2:i < l.length:=by omega
  have hwi:=i64_succ (i:=i) (by omega)
  simp only [tl,tl2,tl4,↓un_u,isCallR,entX,argFr,ret,retI,retB,intT,unT,endR,ressR,resR,tupT,bslR,boxR,lenAll,↓reduceIte,Nat.reduceEqDiff,Nat.reduceAdd,Nat.reduceMul,Nat.reduceLT,Nat.reduceLeDiff,reduceCtorEq,Int.reduceLE,Int.reduceLT,ne_eq,Int.reduceEq,not_false_eq_true,decide_true,decide_false,Int.reduceToNat,tl3,Int.reduceBNe,Int.reduceBEq,rmK,rm1,not_true_eq_false,Int.toNat_natCast,getD_mapT hi2,hwi]
  have hn:=chkN_next hi2 hi.2
  have hbad:errA l i l[i]≠0→chkN l l.length = errA l i l[i]:=fun h=>by
   rw [← hn] at h ⊢
   exact chkN_stays h _ (by omega)
  refine ⟨by omega,?_⟩
  refine C1.shut [] (c_approvals_single l[i]) ?_ (by rfl) rfl ?_
  ·simp only [ltSto,ltO2,ltO1,ltAs,ltA,ltC,ltC0,ltC0s,ltCs,ltT,ltFr,ltS,wrOk,wrO,TL.get,hasFr,↓reduceIte,Nat.reduceEqDiff,reduceCtorEq,Option.getD_some,Option.isSome_some,List.length_map,List.length_append,List.length_cons,List.length_nil,List.append_nil,List.mem_singleton,List.mem_cons,List.not_mem_nil,and_true,true_and,and_self,imp_self,forall_const,false_implies,implies_true,true_implies,or_false,Bool.false_eq_true,Bool.true_eq_false,ImXs_nil,true_or,or_true,false_or,false_and,and_false,rmK,rm1]
  simp only [tl,tl2,tl4,↓un_u,isCallR,entX,argFr,ret,retI,retB,intT,unT,endR,ressR,resR,tupT,bslR,boxR,lenAll,↓reduceIte,Nat.reduceEqDiff,Nat.reduceAdd,Nat.reduceMul,Nat.reduceLT,Nat.reduceLeDiff,reduceCtorEq,Int.reduceLE,Int.reduceLT,ne_eq,Int.reduceEq,not_false_eq_true,decide_true,decide_false,Int.reduceToNat,tl3,Int.reduceBNe,Int.reduceBEq,rmK,rm1,not_true_eq_false,bne_iff_ne,bne_eq_false_iff_eq]
  refine ⟨fun h3=>?_,fun h3=>?_⟩
  ·have he:errA l i l[i] = singleI l[i]:=by rw [errA,if_pos h3]
   rw [hbad (by rw [he];exact h3),he]
   refine .of [] [] rfl (by first | rfl | (rw [hst];rfl)) ?_ ?_
   all_goals (try exact clA)
  have hov:=c_approvals_overlaps (l.take i) l[i] (by rw [List.length_take];omega)
  by_cases hi0:i = 0
  ·have hg0:decide ((i:Int) > 0) = false:=by simp;omega
   simp only [tl,tl2,tl4,↓un_u,isCallR,entX,argFr,ret,retI,retB,intT,unT,endR,ressR,resR,tupT,bslR,boxR,lenAll,↓reduceIte,Nat.reduceEqDiff,Nat.reduceAdd,Nat.reduceMul,Nat.reduceLT,Nat.reduceLeDiff,reduceCtorEq,Int.reduceLE,Int.reduceLT,ne_eq,Int.reduceEq,not_false_eq_true,decide_true,decide_false,Int.reduceToNat,tl3,Int.reduceBNe,Int.reduceBEq,rmK,rm1,not_true_eq_false,hg0]
   refine C2.no (fun h=>h) ?_
   simp only [tl,tl2,tl4,↓un_u,isCallR,entX,argFr,ret,retI,retB,intT,unT,endR,ressR,resR,tupT,bslR,boxR,lenAll,↓reduceIte,Nat.reduceEqDiff,Nat.reduceAdd,Nat.reduceMul,Nat.reduceLT,Nat.reduceLeDiff,reduceCtorEq,Int.reduceLE,Int.reduceLT,ne_eq,Int.reduceEq,not_false_eq_true,decide_true,decide_false,Int.reduceToNat,tl3,Int.reduceBNe,Int.reduceBEq,rmK,rm1,not_true_eq_false,hg0,cut_map,cut_to,lowT,highT]
   refine ⟨by kernel_rfl,by omega,C1.im hov rfl (by rfl) ?_⟩
   simp only [tl,tl2,tl4,↓un_u,isCallR,entX,argFr,ret,retI,retB,intT,unT,endR,ressR,resR,tupT,bslR,boxR,lenAll,↓reduceIte,Nat.reduceEqDiff,Nat.reduceAdd,Nat.reduceMul,Nat.reduceLT,Nat.reduceLeDiff,reduceCtorEq,Int.reduceLE,Int.reduceLT,ne_eq,Int.reduceEq,not_false_eq_true,decide_true,decide_false,Int.reduceToNat,tl3,Int.reduceBNe,Int.reduceBEq,rmK,rm1,not_true_eq_false]
   refine ⟨by kernel_rfl,fun h4=>?_,fun h4=>?_⟩
   ·have he:errA l i l[i] = 10:=by rw [errA,if_neg (fun e=>e h3),if_neg (by omega),if_pos h4]
    rw [hbad (by rw [he];decide),he]
    refine .of [] [] rfl (by first | rfl | (rw [hst];rfl)) ?_ ?_
    all_goals (try exact clA)
   ·have he:errA l i l[i] = 0:=by rw [errA,if_neg (fun e=>e h3),if_neg (by omega),if_neg (by rw [h4];simp)]
    refine ⟨i + 1,⟨by omega,by rw [hn,he]⟩,by omega,?_⟩
    refine .of [] [] rfl (by first | rfl | (rw [hst];rfl)) ?_ ?_
    all_goals (try exact clA)
  ·obtain ⟨j,hj⟩:∃ j,i = j + 1:=⟨i - 1,by omega⟩
   have hj2:j < l.length:=by omega
   have hg0:decide ((i:Int) > 0) = true:=by simp;omega
   have hwj:IntKind.i64.wrap ((i:Int) - 1) = (j:Int):=by rw [IntWalk.i64_in _ (by omega)];omega
   have hgj:l.getD (i - 1) default = l[j]:=by rw [show i - 1 = j by omega,getD_get hj2]
   have hcm:=c_approvals_compare l[j] l[i]
   simp only [tl,tl2,tl4,↓un_u,isCallR,entX,argFr,ret,retI,retB,intT,unT,endR,ressR,resR,tupT,bslR,boxR,lenAll,↓reduceIte,Nat.reduceEqDiff,Nat.reduceAdd,Nat.reduceMul,Nat.reduceLT,Nat.reduceLeDiff,reduceCtorEq,Int.reduceLE,Int.reduceLT,ne_eq,Int.reduceEq,not_false_eq_true,decide_true,decide_false,Int.reduceToNat,tl3,Int.reduceBNe,Int.reduceBEq,rmK,rm1,not_true_eq_false,hg0,hwj,Int.toNat_natCast,getD_mapT hj2]
   refine ⟨by omega,C2.one trivial (C1.im hcm rfl (by rfl) ?_)⟩
   simp only [tl,tl2,tl4,↓un_u,isCallR,entX,argFr,ret,retI,retB,intT,unT,endR,ressR,resR,tupT,bslR,boxR,lenAll,↓reduceIte,Nat.reduceEqDiff,Nat.reduceAdd,Nat.reduceMul,Nat.reduceLT,Nat.reduceLeDiff,reduceCtorEq,Int.reduceLE,Int.reduceLT,ne_eq,Int.reduceEq,not_false_eq_true,decide_true,decide_false,Int.reduceToNat,tl3,Int.reduceBNe,Int.reduceBEq,rmK,rm1,not_true_eq_false,decide_eq_true_eq,decide_eq_false_iff_not,Bool.or_eq_true,Bool.or_eq_false_iff,Bool.and_eq_true,Bool.and_eq_false_iff,cut_map,cut_to,lowT,highT]
   refine ⟨by kernel_rfl,fun h5=>?_,fun h5=>?_⟩
   ·have he:errA l i l[i] = 11:=by rw [errA,if_neg (fun e=>e h3),hgj,if_pos ⟨by omega,by omega⟩]
    rw [hbad (by rw [he];decide),he]
    refine .of [] [] rfl (by first | rfl | (rw [hst];rfl)) ?_ ?_
    all_goals (try exact clA)
   refine ⟨by omega,C1.im hov rfl (by rfl) ?_⟩
   simp only [tl,tl2,tl4,↓un_u,isCallR,entX,argFr,ret,retI,retB,intT,unT,endR,ressR,resR,tupT,bslR,boxR,lenAll,↓reduceIte,Nat.reduceEqDiff,Nat.reduceAdd,Nat.reduceMul,Nat.reduceLT,Nat.reduceLeDiff,reduceCtorEq,Int.reduceLE,Int.reduceLT,ne_eq,Int.reduceEq,not_false_eq_true,decide_true,decide_false,Int.reduceToNat,tl3,Int.reduceBNe,Int.reduceBEq,rmK,rm1,not_true_eq_false]
   refine ⟨by kernel_rfl,fun h4=>?_,fun h4=>?_⟩
   ·have he:errA l i l[i] = 10:=by rw [errA,if_neg (fun e=>e h3),if_neg (by rw [hgj];omega),if_pos h4]
    rw [hbad (by rw [he];decide),he]
    refine .of [] [] rfl (by first | rfl | (rw [hst];rfl)) ?_ ?_
    all_goals (try exact clA)
   ·have he:errA l i l[i] = 0:=by rw [errA,if_neg (fun e=>e h3),if_neg (by rw [hgj];omega),if_neg (by rw [h4];simp)]
    refine ⟨i + 1,⟨by omega,by rw [hn,he]⟩,by omega,?_⟩
    refine .of [] [] rfl (by first | rfl | (rw [hst];rfl)) ?_ ?_
    all_goals (try exact clA)
 ·have hi2:i = l.length:=by omega
  subst hi2
  rw [hi.2]
  refine .of [] [] rfl (by first | rfl | (rw [hst];rfl)) ?_ ?_
  all_goals (try exact clA)
end Go.Proofs
