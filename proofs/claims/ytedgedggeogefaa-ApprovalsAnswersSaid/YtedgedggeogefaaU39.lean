import Derived.Test.YtedgedggeogefaaK39
import Derived.Test.YtedgedggeogefaaT39
set_option linter.unusedSimpArgs false
set_option linter.unusedVariables false
namespace Go.Proofs
open Go Go.TL
open Go.TL.So
set_option maxHeartbeats 2000000
theorem c_ref39_Active (l:List App) (p:ByteArray) (t:Int) (hl:l.length < 4611686018427387904):Spc Try.prog F_ref39_Active [vAs l,vS p,vI t] [] (actT (actA l p t)) []:=by
 have hck:=c_ref39_Check l hl
 refine spec_of_ir fn_ref39_Active mixm (by simp) fun e _ hst=>W_start ?_
 unfold ir_ref39_Active
 simp only [tl,tl2,tl4,↓un_u,isCallR,entX,argFr,ret,retI,retB,intT,unT,endR,ressR,resR,tupT,bslR,boxR,lenAll,↓reduceIte,Nat.reduceEqDiff,Nat.reduceAdd,Nat.reduceMul,Nat.reduceLT,Nat.reduceLeDiff,reduceCtorEq,Int.reduceLE,Int.reduceLT,ne_eq,Int.reduceEq,not_false_eq_true,decide_true,decide_false,Int.reduceToNat,tl3,Int.reduceBNe,Int.reduceBEq,rmK,rm1,not_true_eq_false]
 refine C1.im hck rfl (by rfl) ?_
 simp only [tl,tl2,tl4,↓un_u,isCallR,entX,argFr,ret,retI,retB,intT,unT,endR,ressR,resR,tupT,bslR,boxR,lenAll,↓reduceIte,Nat.reduceEqDiff,Nat.reduceAdd,Nat.reduceMul,Nat.reduceLT,Nat.reduceLeDiff,reduceCtorEq,Int.reduceLE,Int.reduceLT,ne_eq,Int.reduceEq,not_false_eq_true,decide_true,decide_false,Int.reduceToNat,tl3,Int.reduceBNe,Int.reduceBEq,rmK,rm1,not_true_eq_false,bne_iff_ne,bne_eq_false_iff_eq]
 refine ⟨fun h=>?_,fun h=>?_⟩
 ·rw [actA,if_neg h]
  refine .of [] [] rfl (by first | rfl | (rw [hst];rfl)) ?_ ?_
  all_goals (try exact clA)
 rw [actA,if_pos h]
 refine W_loopF mixm (α:=Nat) [16] (fun i=>i≤l.length∧((l.take i).any (atA p t) = false)) (fun i=>[(16,vI i)]) (fun i=>[(4096,.arr 4 [appT zApp] false)]) (fun i=>l.length - i) 0 ⟨by omega,?_⟩ ?_ fun i hi=>?_
 ·rfl
 ·refine .of [(4096,some 4096)] [] rfl (by first | rfl | (rw [hst];rfl)) ?_ ?_
  all_goals (try exact clA)
 simp only [tl,tl2,tl4,↓un_u,isCallR,entX,argFr,ret,retI,retB,intT,unT,endR,ressR,resR,tupT,bslR,boxR,lenAll,↓reduceIte,Nat.reduceEqDiff,Nat.reduceAdd,Nat.reduceMul,Nat.reduceLT,Nat.reduceLeDiff,reduceCtorEq,Int.reduceLE,Int.reduceLT,ne_eq,Int.reduceEq,not_false_eq_true,decide_true,decide_false,Int.reduceToNat,tl3,Int.reduceBNe,Int.reduceBEq,rmK,rm1,not_true_eq_false,decide_eq_true_eq,decide_eq_false_iff_not]
 refine ⟨fun h=>?_,fun h=>?_⟩
 ·have hi2:i < l.length:=by omega
  have hwi:=i64_succ (i:=i) (by omega)
  simp only [tl,tl2,tl4,↓un_u,isCallR,entX,argFr,ret,retI,retB,intT,unT,endR,ressR,resR,tupT,bslR,boxR,lenAll,↓reduceIte,Nat.reduceEqDiff,Nat.reduceAdd,Nat.reduceMul,Nat.reduceLT,Nat.reduceLeDiff,reduceCtorEq,Int.reduceLE,Int.reduceLT,ne_eq,Int.reduceEq,not_false_eq_true,decide_true,decide_false,Int.reduceToNat,tl3,Int.reduceBNe,Int.reduceBEq,rmK,rm1,not_true_eq_false,Int.toNat_natCast,getD_mapT hi2,hwi]
  refine ⟨by omega,fun h3=>?_,fun h3=>?_⟩
  ·have h3:atA p t l[i] = true:=h3
   rw [find_atQ hi2 hi.2 h3]
   refine .of [] [] rfl (by first | rfl | (rw [hst];rfl)) ?_ ?_
   all_goals (try exact clA)
  ·have h3:atA p t l[i] = false:=h3
   refine ⟨i + 1,⟨by omega,any_snoc hi2 hi.2 h3⟩,by omega,?_⟩
   refine .of [(4096,some 4096)] [] rfl (by first | rfl | (rw [hst];rfl)) ?_ ?_
   all_goals (try exact clA)
 ·have hi2:i = l.length:=by omega
  subst hi2
  have h3:=hi.2
  rw [List.take_length] at h3
  rw [find_noneQ h3]
  refine .of [] [] rfl (by first | rfl | (rw [hst];rfl)) ?_ ?_
  all_goals (try exact clA)
def stE (p:ByteArray) (t:Int) (x:App):List App:=if (if atA p t x = true then x.fr < t else x.fr < x.un) then [if atA p t x = true then cutU x t else x] else []
theorem stE_no {p:ByteArray} {t:Int} {x:App} (h:singleI x = 0) (h2:atA p t x = false):stE p t x = [x]:=by
 obtain ⟨_,_,h3,_⟩:=single_parts h
 unfold stE
 rw [h2]
 simp [h3]
theorem flat_id {α:Type} {g:α→List α}:∀ {l:List α},(∀ x∈l,g x = [x])→l.flatMap g = l
 | [],_=>rfl
 | x :: l,h=>by
   rw [List.flatMap_cons,h x List.mem_cons_self,flat_id fun y hy=>h y (List.mem_cons_of_mem _ hy)]
   rfl
theorem stE_end {l:List App} {p:ByteArray} {t:Int} (h:chkA l = 0) (hf:l.any (atA p t) = true):endA l p t = (l.flatMap (stE p t),0):=by
 have hok:=ok_iff.1 h
 obtain ⟨hlt,hfi⟩:=find_idx hf
 rw [endA,if_neg (by rw [h];simp),if_pos hf]
 have hat:atA p t (l[l.findIdx (atA p t)]) = true:=List.find?_some hfi
 generalize l.findIdx (atA p t) = k at *
 have hrest:∀ i (hi:i < l.length),i≠k→stE p t l[i] = [l[i]]:=fun i hi hne=>stE_no (hok.sing _ (List.getElem_mem hi)) (by
  cases h4:atA p t l[i] with
  | false=>rfl
  | true=>exact absurd (uniq hok i k hi hlt h4 hat) hne)
 have h1:(l.take k).flatMap (stE p t) = l.take k:=flat_id fun x hx=>by
  obtain ⟨j,hj,rfl⟩:=List.mem_take_iff_getElem.1 hx
  exact hrest j (by omega) (by omega)
 have h2:(l.drop (k + 1)).flatMap (stE p t) = l.drop (k + 1):=flat_id fun x hx=>by
  obtain ⟨j,hj,rfl⟩:=List.mem_drop_iff_getElem.1 hx
  exact hrest (k + 1 + j) (by omega) (by omega)
 have hsplit:l.flatMap (stE p t) = l.take k ++ (stE p t l[k] ++ l.drop (k + 1)):=by
  conv=>lhs;rw [← List.take_append_drop k l,List.drop_eq_getElem_cons hlt]
  rw [List.flatMap_append,List.flatMap_cons,h1,h2]
 rw [hsplit,getD_get hlt]
 obtain ⟨a1,a2,a3⟩:=atA_iff.1 hat
 split
 ·rename_i e
  rw [stE,if_neg (by rw [if_pos hat];omega),List.nil_append,List.eraseIdx_eq_take_drop_succ]
 ·rw [stE,if_pos (by rw [if_pos hat];omega),if_pos hat,List.set_eq_take_append_cons_drop,if_pos hlt]
  rfl
theorem flat_snoc {α β:Type} {g:α→List β} {l:List α} {i:Nat} (h:i < l.length):(l.take (i + 1)).flatMap g = (l.take i).flatMap g ++ g l[i]:=by
 rw [take_snoc h,List.flatMap_append,List.flatMap_cons,List.flatMap_nil,List.append_nil]
theorem flat_le (p:ByteArray) (t:Int) (l:List App):∀ i,((l.take i).flatMap (stE p t)).length≤i
 | 0=>by simp
 | i + 1=>by
   have h:=flat_le p t l i
   by_cases hi:i < l.length
   ·rw [flat_snoc hi,List.length_append]
    have:(stE p t l[i]).length≤1:=by
     unfold stE
     by_cases c:(if atA p t l[i] = true then l[i].fr < t else l[i].fr < l[i].un)
     ·rw [if_pos c];exact Nat.le_refl _
     ·rw [if_neg c];exact Nat.zero_le _
    omega
   ·rw [List.take_of_length_le (by omega)] at h ⊢
    omega
theorem c_ref39_End (l:List App) (p:ByteArray) (t:Int) (hl:l.length < 1000000000000):Spc Try.prog F_ref39_End [vAs l,vS p,vI t] [] (pairT (endA l p t)) (pairS (endA l p t)):=by
 have hck:=c_ref39_Check l (by omega)
 have hac:=c_ref39_Active l p t (by omega)
 refine spec_of_ir fn_ref39_End mixm (by simp) fun e _ hst=>W_start ?_
 unfold ir_ref39_End
 simp only [tl,tl2,tl4,↓un_u,isCallR,entX,argFr,ret,retI,retB,intT,unT,endR,ressR,resR,tupT,bslR,boxR,lenAll,↓reduceIte,Nat.reduceEqDiff,Nat.reduceAdd,Nat.reduceMul,Nat.reduceLT,Nat.reduceLeDiff,reduceCtorEq,Int.reduceLE,Int.reduceLT,ne_eq,Int.reduceEq,not_false_eq_true,decide_true,decide_false,Int.reduceToNat,tl3,Int.reduceBNe,Int.reduceBEq,rmK,rm1,not_true_eq_false]
 refine ⟨by omega,?_⟩
 refine C1.im hck rfl (by rfl) ?_
 simp only [tl,tl2,tl4,↓un_u,isCallR,entX,argFr,ret,retI,retB,intT,unT,endR,ressR,resR,tupT,bslR,boxR,lenAll,↓reduceIte,Nat.reduceEqDiff,Nat.reduceAdd,Nat.reduceMul,Nat.reduceLT,Nat.reduceLeDiff,reduceCtorEq,Int.reduceLE,Int.reduceLT,ne_eq,Int.reduceEq,not_false_eq_true,decide_true,decide_false,Int.reduceToNat,tl3,Int.reduceBNe,Int.reduceBEq,rmK,rm1,not_true_eq_false,bne_iff_ne,bne_eq_false_iff_eq]
 refine ⟨fun h=>?_,fun h=>?_⟩
 ·rw [endA,if_pos h]
  refine .of [(0,some 8192)] [] rfl (by first | rfl | (rw [hst];rfl)) ?_ ?_
  all_goals (try exact clA)
 refine C1.im hac rfl (by rfl) ?_
 rw [actA,if_pos h]
 simp only [tl,tl2,tl4,↓un_u,isCallR,entX,argFr,ret,retI,retB,intT,unT,endR,ressR,resR,tupT,bslR,boxR,lenAll,↓reduceIte,Nat.reduceEqDiff,Nat.reduceAdd,Nat.reduceMul,Nat.reduceLT,Nat.reduceLeDiff,reduceCtorEq,Int.reduceLE,Int.reduceLT,ne_eq,Int.reduceEq,not_false_eq_true,decide_true,decide_false,Int.reduceToNat,tl3,Int.reduceBNe,Int.reduceBEq,rmK,rm1,not_true_eq_false,Bool.not_eq_true',Bool.not_eq_false']
 refine ⟨fun h2=>?_,fun h2=>?_⟩
 ·have hno:¬ l.any (atA p t) = true:=fun h3=>by
   obtain ⟨_,hfi⟩:=find_idx h3
   rw [hfi] at h2;cases h2
  rw [endA,if_neg (by rw [h];simp),if_neg hno]
  refine .of [(0,some 8192)] [] rfl (by first | rfl | (rw [hst];rfl)) ?_ ?_
  all_goals (try exact clA)
 have hyes:l.any (atA p t) = true:=by
  cases h3:l.any (atA p t) with
  | true=>rfl
  | false=>rw [find_noneQ h3] at h2;cases h2
 rw [stE_end h hyes]
 refine W_loopF mixm (α:=Nat) [12,36] (fun i=>i≤l.length) (fun i=>[(12,.asl 65548 ((l.take i).flatMap (stE p t)).length),(36,vI i)]) (fun i=>[(65548,.arr 4 (((l.take i).flatMap (stE p t)).map appT) false)]) (fun i=>l.length - i) 0 (by omega) ?_ fun i hi=>?_
 ·simp only [List.take_zero,List.flatMap_nil,List.length_nil,List.map_nil]
  refine .of [(65548,none)] [] rfl (by first | rfl | (rw [hst];rfl)) ?_ ?_
  all_goals (try exact clA)
 simp only [tl,tl2,tl4,↓un_u,isCallR,entX,argFr,ret,retI,retB,intT,unT,endR,ressR,resR,tupT,bslR,boxR,lenAll,↓reduceIte,Nat.reduceEqDiff,Nat.reduceAdd,Nat.reduceMul,Nat.reduceLT,Nat.reduceLeDiff,reduceCtorEq,Int.reduceLE,Int.reduceLT,ne_eq,Int.reduceEq,not_false_eq_true,decide_true,decide_false,Int.reduceToNat,tl3,Int.reduceBNe,Int.reduceBEq,rmK,rm1,not_true_eq_false,decide_eq_true_eq,decide_eq_false_iff_not]
 refine ⟨fun h=>?_,fun h=>?_⟩
 ·have hfs:=flat_snoc (g:=stE p t) (show i < l.length by omega)
  have hi2:i < l.length:=by omega
  have hwi:=i64_succ (i:=i) (by omega)
  simp only [tl,tl2,tl4,↓un_u,isCallR,entX,argFr,ret,retI,retB,intT,unT,endR,ressR,resR,tupT,bslR,boxR,lenAll,↓reduceIte,Nat.reduceEqDiff,Nat.reduceAdd,Nat.reduceMul,Nat.reduceLT,Nat.reduceLeDiff,reduceCtorEq,Int.reduceLE,Int.reduceLT,ne_eq,Int.reduceEq,not_false_eq_true,decide_true,decide_false,Int.reduceToNat,tl3,Int.reduceBNe,Int.reduceBEq,rmK,rm1,not_true_eq_false,Int.toNat_natCast,getD_mapT hi2,hwi]
  have hfl:=flat_le p t l i
  refine ⟨by omega,fun h3=>?_,fun h3=>?_⟩
  ·have h3:atA p t l[i] = true:=h3
   refine ⟨fun h4=>?_,fun h4=>?_⟩
   ·have hse:stE p t l[i] = [cutU l[i] t]:=by rw [stE,if_pos (by rw [if_pos h3];exact of_decide_eq_true h4),if_pos h3]
    rw [hse] at hfs
    refine ⟨by omega,i + 1,by omega,by omega,?_⟩
    rw [hfs]
    simp only [List.length_append,List.length_cons,List.length_nil,Nat.zero_add]
    refine .of [(65548,some 65548)] [] rfl (by first | rfl | (rw [hst];rfl)) ?_ ?_
    all_goals (try exact clA)
   ·have hse:stE p t l[i] = []:=by rw [stE,if_neg (by rw [if_pos h3];exact of_decide_eq_false h4)]
    rw [hse] at hfs
    rw [List.append_nil] at hfs
    refine ⟨i + 1,by omega,by omega,?_⟩
    rw [hfs]
    refine .of [(65548,some 65548)] [] rfl (by first | rfl | (rw [hst];rfl)) ?_ ?_
    all_goals (try exact clA)
  ·have h3:¬ atA p t l[i] = true:=by
    have h3:atA p t l[i] = false:=h3
    rw [h3];simp
   refine ⟨fun h4=>?_,fun h4=>?_⟩
   ·have hse:stE p t l[i] = [l[i]]:=by rw [stE,if_pos (by rw [if_neg h3];exact of_decide_eq_true h4),if_neg h3]
    rw [hse] at hfs
    refine ⟨by omega,i + 1,by omega,by omega,?_⟩
    rw [hfs]
    simp only [List.length_append,List.length_cons,List.length_nil,Nat.zero_add]
    refine .of [(65548,some 65548)] [] rfl (by first | rfl | (rw [hst];rfl)) ?_ ?_
    all_goals (try exact clA)
   ·have hse:stE p t l[i] = []:=by rw [stE,if_neg (by rw [if_neg h3];exact of_decide_eq_false h4)]
    rw [hse] at hfs
    rw [List.append_nil] at hfs
    refine ⟨i + 1,by omega,by omega,?_⟩
    rw [hfs]
    refine .of [(65548,some 65548)] [] rfl (by first | rfl | (rw [hst];rfl)) ?_ ?_
    all_goals (try exact clA)
 ·have hi2:i = l.length:=by omega
  subst hi2
  rw [List.take_length]
  refine .of [(0,some 65548)] [] rfl (by first | rfl | (rw [hst];rfl)) ?_ ?_
  all_goals (try exact clA)
end Go.Proofs
