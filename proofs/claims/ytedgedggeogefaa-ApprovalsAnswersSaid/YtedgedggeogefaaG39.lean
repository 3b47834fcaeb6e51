import Derived.Test.YtedgedggeogefaaF39
set_option linter.unusedSimpArgs false
set_option linter.unusedVariables false
namespace Go.Proofs
open Go Go.TL
def propB (x:App):Bool:=decide (x.fr≥0) && decide (x.fr < x.un) && decide (x.un≤1073741824)
theorem c_ref39_proper (x:App):Spc Try.prog F_ref39_proper [appT x] [] (vB (propB x)) []:=by
 refine spec_of_ir fn_ref39_proper mixm (by simp) fun e _ hst=>W_start ?_
 unfold ir_ref39_proper
 simp only [tl,tl2,tl4,↓un_u,isCallR,entX,argFr,ret,retI,retB,intT,unT,endR,ressR,resR,tupT,bslR,boxR,lenAll,↓reduceIte,Nat.reduceEqDiff,Nat.reduceAdd,Nat.reduceMul,Nat.reduceLT,Nat.reduceLeDiff,reduceCtorEq,Int.reduceLE,Int.reduceLT,ne_eq,Int.reduceEq,not_false_eq_true,decide_true,decide_false,Int.reduceToNat,tl3,Int.reduceBNe,Int.reduceBEq,rmK,rm1,not_true_eq_false]
 refine .of [] [] rfl (by first | rfl | (rw [hst];rfl)) ?_ ?_
 all_goals (try exact clA)
def befB (a b:App):Bool:=decide (a.fr < b.fr) || (a.fr == b.fr) && Op.bytesLess a.proj.toList b.proj.toList
theorem befB_cmp (a b:App):befB a b = decide (cmpA a b < 0):=by
 unfold befB cmpA orI orI orI cmpI cmpT
 by_cases h1:a.fr < b.fr
 ·simp [h1]
 ·by_cases h2:a.fr > b.fr
  ·have:¬ a.fr = b.fr:=by omega
   simp [h1,h2,this]
  ·have h3:a.fr = b.fr:=by omega
   by_cases h4:Op.bytesLess a.proj.toList b.proj.toList = true
   ·simp [h3,h4]
   ·by_cases h5:a.proj.toList = b.proj.toList
    ·rw [h5] at h4
     simp only [Bool.not_eq_true] at h4
     simp [h3,h5,h4]
    ·simp [h3,h4,h5]
theorem c_ref39_before (a b:App):Spc Try.prog F_ref39_before [appT a,appT b] [] (vB (befB a b)) []:=by
 refine spec_of_ir fn_ref39_before mixm (by simp) fun e _ hst=>W_start ?_
 unfold ir_ref39_before
 simp only [tl,tl2,tl4,↓un_u,isCallR,entX,argFr,ret,retI,retB,intT,unT,endR,ressR,resR,tupT,bslR,boxR,lenAll,↓reduceIte,Nat.reduceEqDiff,Nat.reduceAdd,Nat.reduceMul,Nat.reduceLT,Nat.reduceLeDiff,reduceCtorEq,Int.reduceLE,Int.reduceLT,ne_eq,Int.reduceEq,not_false_eq_true,decide_true,decide_false,Int.reduceToNat,tl3,Int.reduceBNe,Int.reduceBEq,rmK,rm1,not_true_eq_false]
 refine .of [] [] rfl (by first | rfl | (rw [hst];rfl)) ?_ ?_
 all_goals (try exact clA)
theorem c_ref39_meets (l:List App) (x:App) (hl:l.length < 4611686018427387904):Spc Try.prog F_ref39_meets [vAs l,appT x] [] (vB (l.any (ovA x))) []:=by
 refine spec_of_ir fn_ref39_meets mixm (by simp) fun e _ hst=>W_start ?_
 unfold ir_ref39_meets
 simp only [tl,tl2,tl4,↓un_u,isCallR,entX,argFr,ret,retI,retB,intT,unT,endR,ressR,resR,tupT,bslR,boxR,lenAll,↓reduceIte,Nat.reduceEqDiff,Nat.reduceAdd,Nat.reduceMul,Nat.reduceLT,Nat.reduceLeDiff,reduceCtorEq,Int.reduceLE,Int.reduceLT,ne_eq,Int.reduceEq,not_false_eq_true,decide_true,decide_false,Int.reduceToNat,tl3,Int.reduceBNe,Int.reduceBEq,rmK,rm1,not_true_eq_false]
 refine W_loopF mixm (α:=Nat) [9] (fun i=>i≤l.length∧((l.take i).any (ovA x) = false)) (fun i=>[(9,vI i)]) (fun i=>[(4096,.arr 4 [appT x] false)]) (fun i=>l.length - i) 0 ⟨by omega,?_⟩ ?_ fun i hi=>?_
 ·simp
 ·refine .of [(4096,some 4096)] [] rfl (by first | rfl | (rw [hst];rfl)) ?_ ?_
  all_goals (try exact clA)
 simp only [tl,tl2,tl4,↓un_u,isCallR,entX,argFr,ret,retI,retB,intT,unT,endR,ressR,resR,tupT,bslR,boxR,lenAll,↓reduceIte,Nat.reduceEqDiff,Nat.reduceAdd,Nat.reduceMul,Nat.reduceLT,Nat.reduceLeDiff,reduceCtorEq,Int.reduceLE,Int.reduceLT,ne_eq,Int.reduceEq,not_false_eq_true,decide_true,decide_false,Int.reduceToNat,tl3,Int.reduceBNe,Int.reduceBEq,rmK,rm1,not_true_eq_false,decide_eq_true_eq,decide_eq_false_iff_not]
 refine ⟨fun h=>?_,fun h=>?_⟩
 ·have hi2:i < l.length:=by omega
  have hwi:=i64_succ (i:=i) (by omega)
  simp only [tl,tl2,tl4,↓un_u,isCallR,entX,argFr,ret,retI,retB,intT,unT,endR,ressR,resR,tupT,bslR,boxR,lenAll,↓reduceIte,Nat.reduceEqDiff,Nat.reduceAdd,Nat.reduceMul,Nat.reduceLT,Nat.reduceLeDiff,reduceCtorEq,Int.reduceLE,Int.reduceLT,ne_eq,Int.reduceEq,not_false_eq_true,decide_true,decide_false,Int.reduceToNat,tl3,Int.reduceBNe,Int.reduceBEq,rmK,rm1,not_true_eq_false,Int.toNat_natCast,getD_mapT hi2,hwi]
  refine ⟨by omega,fun h3=>?_,fun h3=>?_⟩
  ·rw [any_at (p:=ovA x) hi2 h3]
   refine .of [] [] rfl (by first | rfl | (rw [hst];rfl)) ?_ ?_
   all_goals (try exact clA)
  ·refine ⟨i + 1,⟨by omega,any_snoc hi2 hi.2 h3⟩,by omega,?_⟩
   refine .of [(4096,some 4096)] [] rfl (by first | rfl | (rw [hst];rfl)) ?_ ?_
   all_goals (try exact clA)
 ·have hi2:i = l.length:=by omega
  subst hi2
  have h3:=hi.2
  rw [List.take_length] at h3
  rw [h3]
  refine .of [] [] rfl (by first | rfl | (rw [hst];rfl)) ?_ ?_
  all_goals (try exact clA)
theorem single_3 {x:App} (h:namedB x = false):singleI x = 3:=by rw [singleI,if_pos h]
theorem single_43 {x:App} (h:namedB x = true) (h2:propB x = false):singleI x = 43:=by
 rw [singleI,if_neg (by rw [h];simp),if_pos]
 unfold propB at h2
 simp at h2
 omega
theorem single_0 {x:App} (h:namedB x = true) (h2:propB x = true):singleI x = 0:=by
 rw [singleI,if_neg (by rw [h];simp),if_neg]
 unfold propB at h2
 simp at h2
 omega
theorem c_ref39_Check (l:List App) (hl:l.length < 4611686018427387904):Spc Try.prog F_ref39_Check [vAs l] [] (vI (chkA l)) []:=by
 refine spec_of_ir fn_ref39_Check mixm (by simp) fun e _ hst=>W_start ?_
 unfold ir_ref39_Check
 simp only [tl,tl2,tl4,↓un_u,isCallR,entX,argFr,ret,retI,retB,intT,unT,endR,ressR,resR,tupT,bslR,boxR,lenAll,↓reduceIte,Nat.reduceEqDiff,Nat.reduceAdd,Nat.reduceMul,Nat.reduceLT,Nat.reduceLeDiff,reduceCtorEq,Int.reduceLE,Int.reduceLT,ne_eq,Int.reduceEq,not_false_eq_true,decide_true,decide_false,Int.reduceToNat,tl3,Int.reduceBNe,Int.reduceBEq,rmK,rm1,not_true_eq_false,decide_eq_true_eq,decide_eq_false_iff_not,Bool.or_eq_true,Bool.or_eq_false_iff,Bool.and_eq_true,Bool.and_eq_false_iff]
 refine ⟨fun h=>?_,fun h=>?_⟩
 ·rw [chkA,if_pos (by omega)]
  refine .of [] [] rfl (by first | rfl | (rw [hst];rfl)) ?_ ?_
  all_goals (try exact clA)
 rw [chkA,if_neg (by omega)]
 refine W_loopF mixm (α:=Nat) [10] (fun i=>i≤l.length∧(chkN l i = 0)) (fun i=>[(10,vI i)]) (fun i=>[]) (fun i=>l.length - i) 0 ⟨by omega,?_⟩ ?_ fun i hi=>?_
 ·rfl
 ·refine .of [] [] rfl (by first | rfl | (rw [hst];rfl)) ?_ ?_
  all_goals (try exact clA)
 simp only [tl,tl2,tl4,↓un_u,isCallR,entX,argFr,ret,retI,retB,intT,unT,endR,ressR,resR,tupT,bslR,boxR,lenAll,↓reduceIte,Nat.reduceEqDiff,Nat.reduceAdd,Nat.reduceMul,Nat.reduceLT,Nat.reduceLeDiff,reduceCtorEq,Int.reduceLE,Int.reduceLT,ne_eq,Int.reduceEq,not_false_eq_true,decide_true,decide_false,Int.reduceToNat,tl3,Int.reduceBNe,Int.reduceBEq,rmK,rm1,not_true_eq_false,decide_eq_true_eq,decide_eq_false_iff_not]
 refine ⟨fun h=>?_,fun h=>?_⟩
 ·have hi2:i < l.length:=by omega
  have hwi:=i64_succ (i:=i) (by omega)
  simp only [tl,tl2,tl4,↓un_u,isCallR,entX,argFr,ret,retI,retB,intT,unT,endR,ressR,resR,tupT,bslR,boxR,lenAll,↓reduceIte,Nat.reduceEqDiff,Nat.reduceAdd,Nat.reduceMul,Nat.reduceLT,Nat.reduceLeDiff,reduceCtorEq,Int.reduceLE,Int.reduceLT,ne_eq,Int.reduceEq,not_false_eq_true,decide_true,decide_false,Int.reduceToNat,tl3,Int.reduceBNe,Int.reduceBEq,rmK,rm1,not_true_eq_false,Int.toNat_natCast,getD_mapT hi2,hwi]
  have hn:=chkN_next hi2 hi.2
  have hbad:errA l i l[i]≠0→chkN l l.length = errA l i l[i]:=fun h=>by
   rw [← hn] at h ⊢
   exact chkN_stays h _ (by omega)
  refine ⟨by omega,?_⟩
  refine C1.im (c_ref39_named l[i]) rfl (by rfl) ?_
  simp only [tl,tl2,tl4,↓un_u,isCallR,entX,argFr,ret,retI,retB,intT,unT,endR,ressR,resR,tupT,bslR,boxR,lenAll,↓reduceIte,Nat.reduceEqDiff,Nat.reduceAdd,Nat.reduceMul,Nat.reduceLT,Nat.reduceLeDiff,reduceCtorEq,Int.reduceLE,Int.reduceLT,ne_eq,Int.reduceEq,not_false_eq_true,decide_true,decide_false,Int.reduceToNat,tl3,Int.reduceBNe,Int.reduceBEq,rmK,rm1,not_true_eq_false,Bool.not_eq_true',Bool.not_eq_false']
  refine ⟨fun h3=>?_,fun h3=>?_⟩
  ·have he:errA l i l[i] = 3:=by rw [errA,single_3 h3];rfl
   rw [hbad (by rw [he];decide),he]
   refine .of [] [] rfl (by first | rfl | (rw [hst];rfl)) ?_ ?_
   all_goals (try exact clA)
  refine C1.im (c_ref39_proper l[i]) rfl (by rfl) ?_
  simp only [tl,tl2,tl4,↓un_u,isCallR,entX,argFr,ret,retI,retB,intT,unT,endR,ressR,resR,tupT,bslR,boxR,lenAll,↓reduceIte,Nat.reduceEqDiff,Nat.reduceAdd,Nat.reduceMul,Nat.reduceLT,Nat.reduceLeDiff,reduceCtorEq,Int.reduceLE,Int.reduceLT,ne_eq,Int.reduceEq,not_false_eq_true,decide_true,decide_false,Int.reduceToNat,tl3,Int.reduceBNe,Int.reduceBEq,rmK,rm1,not_true_eq_false,Bool.not_eq_true',Bool.not_eq_false']
  refine ⟨fun h4=>?_,fun h4=>?_⟩
  ·have he:errA l i l[i] = 43:=by rw [errA,single_43 h3 h4];rfl
   rw [hbad (by rw [he];decide),he]
   refine .of [] [] rfl (by first | rfl | (rw [hst];rfl)) ?_ ?_
   all_goals (try exact clA)
  have hs0:=single_0 h3 h4
  have hov:=c_ref39_meets (l.take i) l[i] (by rw [List.length_take];omega)
  have hfin:(0 < i→¬ cmpA (l.getD (i - 1) default) l[i]≥0)→errA l i l[i] = if (l.take i).any (ovA l[i]) = true then 10 else 0:=fun hc=>by
   rw [errA,if_neg (by rw [hs0];simp),if_neg (fun hh=>hc hh.1 hh.2)]
  by_cases hi0:i = 0
  ·have hg0:decide ((i:Int) > 0) = false:=by simp;omega
   simp only [tl,tl2,tl4,↓un_u,isCallR,entX,argFr,ret,retI,retB,intT,unT,endR,ressR,resR,tupT,bslR,boxR,lenAll,↓reduceIte,Nat.reduceEqDiff,Nat.reduceAdd,Nat.reduceMul,Nat.reduceLT,Nat.reduceLeDiff,reduceCtorEq,Int.reduceLE,Int.reduceLT,ne_eq,Int.reduceEq,not_false_eq_true,decide_true,decide_false,Int.reduceToNat,tl3,Int.reduceBNe,Int.reduceBEq,rmK,rm1,not_true_eq_false,hg0]
   refine C2.no (fun h=>h) ?_
   simp only [tl,tl2,tl4,↓un_u,isCallR,entX,argFr,ret,retI,retB,intT,unT,endR,ressR,resR,tupT,bslR,boxR,lenAll,↓reduceIte,Nat.reduceEqDiff,Nat.reduceAdd,Nat.reduceMul,Nat.reduceLT,Nat.reduceLeDiff,reduceCtorEq,Int.reduceLE,Int.reduceLT,ne_eq,Int.reduceEq,not_false_eq_true,decide_true,decide_false,Int.reduceToNat,tl3,Int.reduceBNe,Int.reduceBEq,rmK,rm1,not_true_eq_false,hg0,cut_map,cut_to,lowT,highT,undef,G2_none]
   refine ⟨by kernel_rfl,by omega,C1.im hov rfl (by rfl) ?_⟩
   simp only [tl,tl2,tl4,↓un_u,isCallR,entX,argFr,ret,retI,retB,intT,unT,endR,ressR,resR,tupT,bslR,boxR,lenAll,↓reduceIte,Nat.reduceEqDiff,Nat.reduceAdd,Nat.reduceMul,Nat.reduceLT,Nat.reduceLeDiff,reduceCtorEq,Int.reduceLE,Int.reduceLT,ne_eq,Int.reduceEq,not_false_eq_true,decide_true,decide_false,Int.reduceToNat,tl3,Int.reduceBNe,Int.reduceBEq,rmK,rm1,not_true_eq_false]
   refine ⟨by kernel_rfl,fun h5=>?_,fun h5=>?_⟩
   ·have he:=hfin (fun h=>absurd hi0 (by omega))
    rw [if_pos h5] at he
    rw [hbad (by rw [he];decide),he]
    refine .of [] [] rfl (by first | rfl | (rw [hst];rfl)) ?_ ?_
    all_goals (try exact clA)
   ·have he:=hfin (fun h=>absurd hi0 (by omega))
    rw [h5,if_neg (by simp)] at he
    refine ⟨i + 1,⟨by omega,by rw [hn,he]⟩,by omega,?_⟩
    refine .of [] [] rfl (by first | rfl | (rw [hst];rfl)) ?_ ?_
    all_goals (try exact clA)
  ·obtain ⟨j,hj⟩:∃ j,i = j + 1:=⟨i - 1,by omega⟩
   have hj2:j < l.length:=by omega
   have hg0:decide ((i:Int) > 0) = true:=by simp;omega
   have hwj:IntKind.i64.wrap ((i:Int) - 1) = (j:Int):=by rw [IntWalk.i64_in _ (by omega)];omega
   have hgj:l.getD (i - 1) default = l[j]:=by rw [show i - 1 = j by omega,getD_get hj2]
   have hcm:=c_ref39_before l[j] l[i]
   simp only [tl,tl2,tl4,↓un_u,isCallR,entX,argFr,ret,retI,retB,intT,unT,endR,ressR,resR,tupT,bslR,boxR,lenAll,↓reduceIte,Nat.reduceEqDiff,Nat.reduceAdd,Nat.reduceMul,Nat.reduceLT,Nat.reduceLeDiff,reduceCtorEq,Int.reduceLE,Int.reduceLT,ne_eq,Int.reduceEq,not_false_eq_true,decide_true,decide_false,Int.reduceToNat,tl3,Int.reduceBNe,Int.reduceBEq,rmK,rm1,not_true_eq_false,hg0,hwj,Int.toNat_natCast,getD_mapT hj2]
   refine ⟨by omega,C2.one trivial (C1.im hcm rfl (by rfl) ?_)⟩
   rw [befB_cmp]
   simp only [tl,tl2,tl4,↓un_u,isCallR,entX,argFr,ret,retI,retB,intT,unT,endR,ressR,resR,tupT,bslR,boxR,lenAll,↓reduceIte,Nat.reduceEqDiff,Nat.reduceAdd,Nat.reduceMul,Nat.reduceLT,Nat.reduceLeDiff,reduceCtorEq,Int.reduceLE,Int.reduceLT,ne_eq,Int.reduceEq,not_false_eq_true,decide_true,decide_false,Int.reduceToNat,tl3,Int.reduceBNe,Int.reduceBEq,rmK,rm1,not_true_eq_false,decide_eq_true_eq,decide_eq_false_iff_not,Bool.or_eq_true,Bool.or_eq_false_iff,Bool.and_eq_true,Bool.and_eq_false_iff,Bool.not_eq_true',Bool.not_eq_false',cut_map,cut_to,lowT,highT]
   refine ⟨by kernel_rfl,fun h5=>?_,fun h5=>?_⟩
   ·have he:errA l i l[i] = 11:=by rw [errA,if_neg (by rw [hs0];simp),hgj,if_pos ⟨by omega,by omega⟩]
    rw [hbad (by rw [he];decide),he]
    refine .of [] [] rfl (by first | rfl | (rw [hst];rfl)) ?_ ?_
    all_goals (try exact clA)
   have hc:0 < i→¬ cmpA (l.getD (i - 1) default) l[i]≥0:=fun _=>by rw [hgj];omega
   refine ⟨by omega,C1.im hov rfl (by rfl) ?_⟩
   simp only [tl,tl2,tl4,↓un_u,isCallR,entX,argFr,ret,retI,retB,intT,unT,endR,ressR,resR,tupT,bslR,boxR,lenAll,↓reduceIte,Nat.reduceEqDiff,Nat.reduceAdd,Nat.reduceMul,Nat.reduceLT,Nat.reduceLeDiff,reduceCtorEq,Int.reduceLE,Int.reduceLT,ne_eq,Int.reduceEq,not_false_eq_true,decide_true,decide_false,Int.reduceToNat,tl3,Int.reduceBNe,Int.reduceBEq,rmK,rm1,not_true_eq_false]
   refine ⟨by kernel_rfl,fun h4=>?_,fun h4=>?_⟩
   ·have he:=hfin hc
    rw [if_pos h4] at he
    rw [hbad (by rw [he];decide),he]
    refine .of [] [] rfl (by first | rfl | (rw [hst];rfl)) ?_ ?_
    all_goals (try exact clA)
   ·have he:=hfin hc
    rw [h4,if_neg (by simp)] at he
    refine ⟨i + 1,⟨by omega,by rw [hn,he]⟩,by omega,?_⟩
    refine .of [] [] rfl (by first | rfl | (rw [hst];rfl)) ?_ ?_
    all_goals (try exact clA)
 ·have hi2:i = l.length:=by omega
  subst hi2
  rw [hi.2]
  refine .of [] [] rfl (by first | rfl | (rw [hst];rfl)) ?_ ?_
  all_goals (try exact clA)
def actA (l:List App) (p:ByteArray) (t:Int):Option App:=if chkA l = 0 then l.find? (atA p t) else none
abbrev zApp:App:=⟨⟨#[]⟩,⟨#[]⟩,0,0⟩
abbrev actT (o:Option App):T:=.tup [appT (o.getD zApp),vB o.isSome]
theorem find_idx {α:Type} {p:α→Bool}:∀ {l:List α},l.any p = true→∃ h:l.findIdx p < l.length,l.find? p = some l[l.findIdx p]:=by
 intro l h
 have hlt:l.findIdx p < l.length:=List.findIdx_lt_length.2 (by simpa using h)
 refine ⟨hlt,?_⟩
 rw [List.find?_eq_some_iff_getElem]
 refine ⟨List.findIdx_getElem,l.findIdx p,hlt,rfl,fun j hj=>?_⟩
 have:=List.not_of_lt_findIdx hj
 simpa using this
theorem c_approvals_Active (l:List App) (p:ByteArray) (t:Int) (hl:l.length < 4611686018427387904):Spc Try.prog F_approvals_Active [vAs l,vS p,vI t] [] (actT (actA l p t)) []:=by
 have hck:=c_approvals_Check l hl
 refine spec_of_ir fn_approvals_Active mixm (by simp) fun e _ hst=>W_start ?_
 unfold ir_approvals_Active
 simp only [tl,tl2,tl4,↓un_u,isCallR,entX,argFr,ret,retI,retB,intT,unT,endR,ressR,resR,tupT,bslR,boxR,lenAll,↓reduceIte,Nat.reduceEqDiff,Nat.reduceAdd,Nat.reduceMul,Nat.reduceLT,Nat.reduceLeDiff,reduceCtorEq,Int.reduceLE,Int.reduceLT,ne_eq,Int.reduceEq,not_false_eq_true,decide_true,decide_false,Int.reduceToNat,tl3,Int.reduceBNe,Int.reduceBEq,rmK,rm1,not_true_eq_false]
 refine C1.im (c_approvals_find l p t hl) rfl (by rfl) ?_
 simp only [tl,tl2,tl4,↓un_u,isCallR,entX,argFr,ret,retI,retB,intT,unT,endR,ressR,resR,tupT,bslR,boxR,lenAll,↓reduceIte,Nat.reduceEqDiff,Nat.reduceAdd,Nat.reduceMul,Nat.reduceLT,Nat.reduceLeDiff,reduceCtorEq,Int.reduceLE,Int.reduceLT,ne_eq,Int.reduceEq,not_false_eq_true,decide_true,decide_false,Int.reduceToNat,tl3,Int.reduceBNe,Int.reduceBEq,rmK,rm1,not_true_eq_false]
 by_cases hf:l.any (atA p t) = true
 ·obtain ⟨hlt,hfi⟩:=find_idx hf
  have hid:findI l p t = (l.findIdx (atA p t):Nat):=by rw [findI,idxI,if_pos hf]
  have hg:decide (findI l p t < 0) = false:=by rw [hid];simp
  simp only [tl,tl2,tl4,↓un_u,isCallR,entX,argFr,ret,retI,retB,intT,unT,endR,ressR,resR,tupT,bslR,boxR,lenAll,↓reduceIte,Nat.reduceEqDiff,Nat.reduceAdd,Nat.reduceMul,Nat.reduceLT,Nat.reduceLeDiff,reduceCtorEq,Int.reduceLE,Int.reduceLT,ne_eq,Int.reduceEq,not_false_eq_true,decide_true,decide_false,Int.reduceToNat,tl3,Int.reduceBNe,Int.reduceBEq,rmK,rm1,not_true_eq_false,hg]
  refine C2.one trivial (C1.im hck rfl (by rfl) ?_)
  simp only [tl,tl2,tl4,↓un_u,isCallR,entX,argFr,ret,retI,retB,intT,unT,endR,ressR,resR,tupT,bslR,boxR,lenAll,↓reduceIte,Nat.reduceEqDiff,Nat.reduceAdd,Nat.reduceMul,Nat.reduceLT,Nat.reduceLeDiff,reduceCtorEq,Int.reduceLE,Int.reduceLT,ne_eq,Int.reduceEq,not_false_eq_true,decide_true,decide_false,Int.reduceToNat,tl3,Int.reduceBNe,Int.reduceBEq,rmK,rm1,not_true_eq_false,hg,bne_iff_ne,bne_eq_false_iff_eq,hid,Int.toNat_natCast,getD_mapT hlt]
  refine ⟨fun h=>?_,fun h=>⟨by omega,?_⟩⟩
  ·rw [actA,if_neg h]
   refine .of [] [] rfl (by first | rfl | (rw [hst];rfl)) ?_ ?_
   all_goals (try exact clA)
  ·rw [actA,if_pos h,hfi]
   refine .of [] [] rfl (by first | rfl | (rw [hst];rfl)) ?_ ?_
   all_goals (try exact clA)
 ·have hid:findI l p t = -1:=by rw [findI,idxI,if_neg hf]
  have hn:l.find? (atA p t) = none:=find_noneQ (by simpa using hf)
  simp only [tl,tl2,tl4,↓un_u,isCallR,entX,argFr,ret,retI,retB,intT,unT,endR,ressR,resR,tupT,bslR,boxR,lenAll,↓reduceIte,Nat.reduceEqDiff,Nat.reduceAdd,Nat.reduceMul,Nat.reduceLT,Nat.reduceLeDiff,reduceCtorEq,Int.reduceLE,Int.reduceLT,ne_eq,Int.reduceEq,not_false_eq_true,decide_true,decide_false,Int.reduceToNat,tl3,Int.reduceBNe,Int.reduceBEq,rmK,rm1,not_true_eq_false,hid]
  refine C2.no (by simp) ?_
  simp only [tl,tl2,tl4,↓un_u,isCallR,entX,argFr,ret,retI,retB,intT,unT,endR,ressR,resR,tupT,bslR,boxR,lenAll,↓reduceIte,Nat.reduceEqDiff,Nat.reduceAdd,Nat.reduceMul,Nat.reduceLT,Nat.reduceLeDiff,reduceCtorEq,Int.reduceLE,Int.reduceLT,ne_eq,Int.reduceEq,not_false_eq_true,decide_true,decide_false,Int.reduceToNat,tl3,Int.reduceBNe,Int.reduceBEq,rmK,rm1,not_true_eq_false,hid]
  rw [actA,hn]
  split
  ·refine .of [] [] rfl (by first | rfl | (rw [hst];rfl)) ?_ ?_
   all_goals (try exact clA)
  ·refine .of [] [] rfl (by first | rfl | (rw [hst];rfl)) ?_ ?_
   all_goals (try exact clA)
end Go.Proofs
