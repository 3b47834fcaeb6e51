import Derived.Test.YtgdfndldfmjfhaaDoorR29
set_option linter.unusedSimpArgs false
set_option linter.unusedVariables false
namespace Go.Proofs
open Go Go.TL
set_option maxRecDepth 4000
theorem valid_false {count:Int} {l:List Eqn} {i:Nat} (h:i < l.length) (hf:eqOk count l[i] = false):validB count l = false:=by
 have:l.all (eqOk count) = false:=List.all_eq_false.2 ⟨_,List.getElem_mem h,by simp [hf]⟩
 unfold validB
 rw [this,Bool.and_false]
theorem c_ref29_Valid (count:Int) (l:List Eqn) (hl:l.length < 4611686018427387904) (hx:∀ x∈l,x.cells.length < 4611686018427387904):Spc Tryd.prog F_ref29_Valid [vI count,vQs l] [] (vB (validB count l)) []:=by
 refine spec_of_ir fn_ref29_Valid mixm (by simp) fun e _ hst=>W_start ?_
 unfold ir_ref29_Valid
 refine sD ?_
 refine ⟨fun h=>?_,fun h=>?_⟩
 ·have:validB count l = false:=by
   simp only [validB,Bool.and_eq_false_iff,decide_eq_false_iff_not]
   omega
  rw [this]
  refine .of [] [] rfl (by first | rfl | (rw [hst];rfl)) ?_ ?_
  all_goals (try exact clA)
 have hd:validB count l = l.all (eqOk count):=by
  have e1:decide (1≤count) = true:=by simp;omega
  have e2:decide (count≤48) = true:=by simp;omega
  have e3:decide (l.length≤1152) = true:=by simp;omega
  simp only [validB,e1,e2,e3,Bool.true_and]
 refine W_loopF mixm (α:=Nat) [23] (fun i=>i≤l.length∧((l.take i).all (eqOk count) = true)) (fun i=>[(23,vI i)]) (fun i=>[]) (fun i=>l.length - i) 0 ⟨by omega,?_⟩ ?_ fun i hi=>?_
 ·rfl
 ·refine .of [] [] rfl (by first | rfl | (rw [hst];rfl)) ?_ ?_
  all_goals (try exact clA)
 simp only [tl,tl2,tl4,↓un_u,isCallR,entX,argFr,ret,retI,retB,intT,unT,endR,ressR,resR,tupT,bslR,boxR,lenAll,↓reduceIte,Nat.reduceEqDiff,Nat.reduceAdd,Nat.reduceMul,Nat.reduceLT,Nat.reduceLeDiff,reduceCtorEq,Int.reduceLE,Int.reduceLT,ne_eq,Int.reduceEq,not_false_eq_true,decide_true,decide_false,Int.reduceToNat,tl3,Int.reduceBNe,Int.reduceBEq,rmK,rm1,not_true_eq_false,decide_eq_true_eq,decide_eq_false_iff_not]
 refine ⟨fun h=>?_,fun h=>?_⟩
 ·have hxi:=hx _ (List.getElem_mem (show i < l.length by omega))
  have hi2:i < l.length:=by omega
  have hwi:=i64_succ (i:=i) (by omega)
  simp only [tl,tl2,tl4,↓un_u,isCallR,entX,argFr,ret,retI,retB,intT,unT,endR,ressR,resR,tupT,bslR,boxR,lenAll,↓reduceIte,Nat.reduceEqDiff,Nat.reduceAdd,Nat.reduceMul,Nat.reduceLT,Nat.reduceLeDiff,reduceCtorEq,Int.reduceLE,Int.reduceLT,ne_eq,Int.reduceEq,not_false_eq_true,decide_true,decide_false,Int.reduceToNat,tl3,Int.reduceBNe,Int.reduceBEq,rmK,rm1,not_true_eq_false,Int.toNat_natCast,getD_mapT hi2,hwi]
  have hbad:eqOk count l[i] = false→validB count l = false:=valid_false hi2
  have hgood:eqOk count l[i] = true→(l.take (i + 1)).all (eqOk count) = true:=fun hf=>by
   rw [take_snoc hi2,List.all_append,hi.2];simp [hf]
  obtain ⟨x,hxd⟩:∃ x,x = l[i]:=⟨_,rfl⟩
  rw [← hxd] at hxi hbad hgood ⊢
  simp only [tl,tl2,tl4,↓un_u,isCallR,entX,argFr,ret,retI,retB,intT,unT,endR,ressR,resR,tupT,bslR,boxR,lenAll,↓reduceIte,Nat.reduceEqDiff,Nat.reduceAdd,Nat.reduceMul,Nat.reduceLT,Nat.reduceLeDiff,reduceCtorEq,Int.reduceLE,Int.reduceLT,ne_eq,Int.reduceEq,not_false_eq_true,decide_true,decide_false,Int.reduceToNat,tl3,Int.reduceBNe,Int.reduceBEq,rmK,rm1,not_true_eq_false,decide_eq_true_eq,decide_eq_false_iff_not,Bool.or_eq_true,Bool.or_eq_false_iff,Bool.and_eq_true,Bool.and_eq_false_iff,beq_iff_eq,beq_eq_false_iff_ne]
  refine ⟨by omega,fun h4=>?_,fun h4=>?_⟩
  ·have:eqOk count x = false:=by
    unfold eqOk okV
    rcases h4 with (h4 | h4) | h4
    ·have:x.cells = []:=List.eq_nil_of_length_eq_zero (by omega)
     rw [this];rfl
    ·rw [decide_eq_false (show ¬ (0≤x.val) by omega)];simp
    ·rw [decide_eq_false (show ¬ (x.val≤1000000) by omega)];simp
   rw [hbad this]
   refine .of [] [] rfl (by first | rfl | (rw [hst];rfl)) ?_ ?_
   all_goals (try exact clA)
  have he:eqOk count x = ascF count x.cells (-1):=by
   have e1:okV x.val = true:=by simp only [okV,Bool.and_eq_true,decide_eq_true_eq];omega
   unfold eqOk
   rw [e1]
   cases hc:x.cells with
   | nil=>rw [hc] at h4;simp at h4
   | cons _ _=>simp
  rw [he] at hbad hgood
  refine W_loopF mixm (α:=Nat×Int) [7,44] (fun y=>y.1≤x.cells.length∧ascF count x.cells (-1) = ascF count (x.cells.drop y.1) y.2) (fun y=>[(7,vI y.2),(44,vI y.1)]) (fun _=>[]) (fun y=>x.cells.length - y.1) (0,-1) ⟨by simp,by simp⟩ ?_ fun y hy=>?_
  ·refine .of [] [] rfl (by first | rfl | (rw [hst];rfl)) ?_ ?_
   all_goals (try exact clA)
  obtain ⟨j,b⟩:=y
  obtain ⟨hj,ha⟩:=hy
  dsimp only at hj ha
  refine sD ?_
  refine ⟨fun h5=>?_,fun h5=>?_⟩
  ·have hd2:=List.drop_eq_getElem_cons (show j < x.cells.length by omega)
   rw [hd2] at ha
   simp only [ascF] at ha
   have hj2:j < x.cells.length:=by omega
   have hwj:=i64_succ (i:=j) (by omega)
   simp only [tl,tl2,tl4,↓un_u,isCallR,entX,argFr,ret,retI,retB,intT,unT,endR,ressR,resR,tupT,bslR,boxR,lenAll,↓reduceIte,Nat.reduceEqDiff,Nat.reduceAdd,Nat.reduceMul,Nat.reduceLT,Nat.reduceLeDiff,reduceCtorEq,Int.reduceLE,Int.reduceLT,ne_eq,Int.reduceEq,not_false_eq_true,decide_true,decide_false,Int.reduceToNat,tl3,Int.reduceBNe,Int.reduceBEq,rmK,rm1,not_true_eq_false,Int.toNat_natCast,getD_mapT hj2,hwj,decide_eq_true_eq,decide_eq_false_iff_not,Bool.or_eq_true,Bool.or_eq_false_iff,Bool.and_eq_true,Bool.and_eq_false_iff]
   refine ⟨by omega,fun h6=>?_,fun h6=>?_⟩
   ·rw [if_pos h6] at ha
    rw [hbad ha]
    refine .of [] [] rfl (by first | rfl | (rw [hst];rfl)) ?_ ?_
    all_goals (try exact clA)
   ·rw [if_neg (by omega)] at ha
    refine ⟨(j + 1,x.cells[j]),⟨by simp only;omega,ha⟩,by simp only;omega,?_⟩
    refine .of [] [] rfl (by first | rfl | (rw [hst];rfl)) ?_ ?_
    all_goals (try exact clA)
  ·have hjl:j = x.cells.length:=by omega
   rw [hjl,List.drop_length] at ha
   refine ⟨i + 1,⟨by omega,hgood ha⟩,by omega,?_⟩
   refine .of [] [] rfl (by first | rfl | (rw [hst];rfl)) ?_ ?_
   all_goals (try exact clA)
 ·have hi2:i = l.length:=by omega
  subst hi2
  have h3:=hi.2
  rw [List.take_length] at h3
  rw [hd,h3]
  refine .of [] [] rfl (by first | rfl | (rw [hst];rfl)) ?_ ?_
  all_goals (try exact clA)
theorem c_ref29_Agrees (l:List Eqn) (t:List Int) (hl:l.length < 4611686018427387904) (ht:t.length < 4611686018427387904) (hx:∀ x∈l,x.cells.length < 1000000):Spc Tryd.prog F_ref29_Agrees [vQs l,vIs t] [] (vB (agrees l t)) []:=by
 refine spec_of_ir fn_ref29_Agrees mixm (by simp) fun e _ hst=>W_start ?_
 unfold ir_ref29_Agrees
 refine sW ?_
 refine W_loopF mixm (α:=Nat) [14] (fun i=>i≤t.length∧((t.take i).all okV = true)) (fun i=>[(14,vI i)]) (fun i=>[]) (fun i=>t.length - i) 0 ⟨by omega,?_⟩ ?_ fun i hi=>?_
 ·rfl
 ·refine .of [] [] rfl (by first | rfl | (rw [hst];rfl)) ?_ ?_
  all_goals (try exact clA)
 simp only [tl,tl2,tl4,↓un_u,isCallR,entX,argFr,ret,retI,retB,intT,unT,endR,ressR,resR,tupT,bslR,boxR,lenAll,↓reduceIte,Nat.reduceEqDiff,Nat.reduceAdd,Nat.reduceMul,Nat.reduceLT,Nat.reduceLeDiff,reduceCtorEq,Int.reduceLE,Int.reduceLT,ne_eq,Int.reduceEq,not_false_eq_true,decide_true,decide_false,Int.reduceToNat,tl3,Int.reduceBNe,Int.reduceBEq,rmK,rm1,not_true_eq_false,decide_eq_true_eq,decide_eq_false_iff_not]
 refine ⟨fun h=>?_,fun h=>?_⟩
 ·have hi2:i < t.length:=by omega
  have hwi:=i64_succ (i:=i) (by omega)
  simp only [tl,tl2,tl4,↓un_u,isCallR,entX,argFr,ret,retI,retB,intT,unT,endR,ressR,resR,tupT,bslR,boxR,lenAll,↓reduceIte,Nat.reduceEqDiff,Nat.reduceAdd,Nat.reduceMul,Nat.reduceLT,Nat.reduceLeDiff,reduceCtorEq,Int.reduceLE,Int.reduceLT,ne_eq,Int.reduceEq,not_false_eq_true,decide_true,decide_false,Int.reduceToNat,tl3,Int.reduceBNe,Int.reduceBEq,rmK,rm1,not_true_eq_false,Int.toNat_natCast,getD_mapT hi2,hwi,decide_eq_true_eq,decide_eq_false_iff_not,Bool.or_eq_true,Bool.or_eq_false_iff,Bool.and_eq_true,Bool.and_eq_false_iff]
  refine ⟨by omega,fun h4=>?_,fun h4=>?_⟩
  ·have:okV t[i] = false:=by simp only [okV,Bool.and_eq_false_iff,decide_eq_false_iff_not];omega
   have:agrees l t = false:=by
    unfold agrees
    rw [List.all_eq_false.2 ⟨_,List.getElem_mem hi2,by simp [this]⟩];rfl
   rw [this]
   refine .of [] [] rfl (by first | rfl | (rw [hst];rfl)) ?_ ?_
   all_goals (try exact clA)
  ·refine ⟨i + 1,⟨by omega,?_⟩,by omega,?_⟩
   ·rw [take_snoc hi2,List.all_append,hi.2]
    simp only [List.all_cons,List.all_nil,Bool.and_true,Bool.true_and,okV,Bool.and_eq_true,decide_eq_true_eq]
    omega
   ·refine .of [] [] rfl (by first | rfl | (rw [hst];rfl)) ?_ ?_
    all_goals (try exact clA)
 have hit:i = t.length:=by omega
 subst hit
 have hk0:=hi.2
 rw [List.take_length] at hk0
 clear hi
 refine W_loopF mixm (α:=Nat) [27] (fun i=>i≤l.length∧((l.take i).all (agr1 t) = true)) (fun i=>[(27,vI i)]) (fun i=>[]) (fun i=>l.length - i) 0 ⟨by omega,?_⟩ ?_ fun i hi=>?_
 ·rfl
 ·refine .of [] [] rfl (by first | rfl | (rw [hst];rfl)) ?_ ?_
  all_goals (try exact clA)
 simp only [tl,tl2,tl4,↓un_u,isCallR,entX,argFr,ret,retI,retB,intT,unT,endR,ressR,resR,tupT,bslR,boxR,lenAll,↓reduceIte,Nat.reduceEqDiff,Nat.reduceAdd,Nat.reduceMul,Nat.reduceLT,Nat.reduceLeDiff,reduceCtorEq,Int.reduceLE,Int.reduceLT,ne_eq,Int.reduceEq,not_false_eq_true,decide_true,decide_false,Int.reduceToNat,tl3,Int.reduceBNe,Int.reduceBEq,rmK,rm1,not_true_eq_false,decide_eq_true_eq,decide_eq_false_iff_not]
 refine ⟨fun h=>?_,fun h=>?_⟩
 ·have hxi:=hx _ (List.getElem_mem (show i < l.length by omega))
  have hi2:i < l.length:=by omega
  have hwi:=i64_succ (i:=i) (by omega)
  simp only [tl,tl2,tl4,↓un_u,isCallR,entX,argFr,ret,retI,retB,intT,unT,endR,ressR,resR,tupT,bslR,boxR,lenAll,↓reduceIte,Nat.reduceEqDiff,Nat.reduceAdd,Nat.reduceMul,Nat.reduceLT,Nat.reduceLeDiff,reduceCtorEq,Int.reduceLE,Int.reduceLT,ne_eq,Int.reduceEq,not_false_eq_true,decide_true,decide_false,Int.reduceToNat,tl3,Int.reduceBNe,Int.reduceBEq,rmK,rm1,not_true_eq_false,Int.toNat_natCast,getD_mapT hi2,hwi]
  have hbad:agr1 t l[i] = false→agrees l t = false:=fun hf=>agr_false hi2 hf
  have hgood:agr1 t l[i] = true→(l.take (i + 1)).all (agr1 t) = true:=fun hf=>by
   rw [take_snoc hi2,List.all_append,hi.2];simp [hf]
  obtain ⟨x,hxd⟩:∃ x,x = l[i]:=⟨_,rfl⟩
  rw [← hxd] at hxi hbad hgood ⊢
  refine ⟨by omega,?_⟩
  rw [agr1_eq] at hbad hgood
  refine W_loopF mixm (α:=Nat) [9,34] (fun j=>j≤x.cells.length∧((x.cells.take j).all (inT t) = true)) (fun j=>[(9,vI (sumT t (x.cells.take j))),(34,vI j)]) (fun j=>[(40968,.arr 2 [eqnT x] false)]) (fun j=>x.cells.length - j) 0 ⟨by omega,?_⟩ ?_ fun j hj=>?_
  ·rfl
  ·refine .of [(40968,some 40968)] [] rfl (by first | rfl | (rw [hst];rfl)) ?_ ?_
   all_goals (try exact clA)
  refine sD ?_
  refine ⟨fun h5=>?_,fun h5=>?_⟩
  ·have hj2:j < x.cells.length:=by omega
   have hwj:=i64_succ (i:=j) (by omega)
   simp only [tl,tl2,tl4,↓un_u,isCallR,entX,argFr,ret,retI,retB,intT,unT,endR,ressR,resR,tupT,bslR,boxR,lenAll,↓reduceIte,Nat.reduceEqDiff,Nat.reduceAdd,Nat.reduceMul,Nat.reduceLT,Nat.reduceLeDiff,reduceCtorEq,Int.reduceLE,Int.reduceLT,ne_eq,Int.reduceEq,not_false_eq_true,decide_true,decide_false,Int.reduceToNat,tl3,Int.reduceBNe,Int.reduceBEq,rmK,rm1,not_true_eq_false,Int.toNat_natCast,getD_mapT hj2,hwj,decide_eq_true_eq,decide_eq_false_iff_not,Bool.or_eq_true,Bool.or_eq_false_iff,Bool.and_eq_true,Bool.and_eq_false_iff]
   refine ⟨by omega,fun h6=>?_,fun h6=>?_⟩
   ·have hf:x.cells.all (inT t) = false:=all_at hj2 (by simp only [inT,Bool.and_eq_false_iff,decide_eq_false_iff_not];omega)
    rw [hbad (by rw [hf];rfl)]
    refine .of [] [] rfl (by first | rfl | (rw [hst];rfl)) ?_ ?_
    all_goals (try exact clA)
   ·have hk:x.cells[j].toNat < t.length:=by omega
    have hb1:=(sumT_bound hk0 (x.cells.take (j + 1)))
    have hsn:=sumT_snoc (t:=t) hj2
    rw [getD_get hk] at hsn
    have hlj:(x.cells.take (j + 1)).length≤x.cells.length:=by rw [List.length_take];omega
    have hw:IntKind.i64.wrap (sumT t (x.cells.take j) + t[x.cells[j].toNat]) = sumT t (x.cells.take (j + 1)):=by
     rw [← hsn,IntWalk.i64_in _ (by omega)]
    simp only [getD_mapT hk]
    simp only [tl,tl2,tl4,↓un_u,isCallR,entX,argFr,ret,retI,retB,intT,unT,endR,ressR,resR,tupT,bslR,boxR,lenAll,↓reduceIte,Nat.reduceEqDiff,Nat.reduceAdd,Nat.reduceMul,Nat.reduceLT,Nat.reduceLeDiff,reduceCtorEq,Int.reduceLE,Int.reduceLT,ne_eq,Int.reduceEq,not_false_eq_true,decide_true,decide_false,Int.reduceToNat,tl3,Int.reduceBNe,Int.reduceBEq,rmK,rm1,not_true_eq_false,hw]
    refine ⟨by omega,j + 1,⟨by omega,?_⟩,by omega,?_⟩
    ·rw [take_snoc hj2,List.all_append,hj.2]
     simp only [List.all_cons,List.all_nil,Bool.and_true,Bool.true_and,inT,Bool.and_eq_true,decide_eq_true_eq]
     omega
    ·refine .of [(40968,some 40968)] [] rfl (by first | rfl | (rw [hst];rfl)) ?_ ?_
     all_goals (try exact clA)
  ·have hj2:j = x.cells.length:=by omega
   subst hj2
   have h7:=hj.2
   rw [List.take_length] at h7 ⊢
   rw [h7,Bool.true_and] at hbad hgood
   simp only [tl,tl2,tl4,↓un_u,isCallR,entX,argFr,ret,retI,retB,intT,unT,endR,ressR,resR,tupT,bslR,boxR,lenAll,↓reduceIte,Nat.reduceEqDiff,Nat.reduceAdd,Nat.reduceMul,Nat.reduceLT,Nat.reduceLeDiff,reduceCtorEq,Int.reduceLE,Int.reduceLT,ne_eq,Int.reduceEq,not_false_eq_true,decide_true,decide_false,Int.reduceToNat,tl3,Int.reduceBNe,Int.reduceBEq,rmK,rm1,not_true_eq_false,bne_iff_ne,bne_eq_false_iff_eq]
   refine ⟨fun h8=>?_,fun h8=>⟨i + 1,⟨by omega,hgood (by simpa using h8)⟩,by omega,?_⟩⟩
   ·rw [hbad (by simpa using h8)]
    refine .of [] [] rfl (by first | rfl | (rw [hst];rfl)) ?_ ?_
    all_goals (try exact clA)
   ·refine .of [] [] rfl (by first | rfl | (rw [hst];rfl)) ?_ ?_
    all_goals (try exact clA)
 ·have hi2:i = l.length:=by omega
  subst hi2
  have h3:=hi.2
  rw [List.take_length] at h3
  have:agrees l t = true:=by unfold agrees;rw [hk0,h3];rfl
  rw [this]
  refine .of [] [] rfl (by first | rfl | (rw [hst];rfl)) ?_ ?_
  all_goals (try exact clA)
end Go.Proofs
