import Derived.Test.YtgdfndldfmjfhaaDoorF29
set_option linter.unusedSimpArgs false
set_option linter.unusedVariables false
namespace Go.Proofs
open Go Go.TL
theorem c_slices_IndexFunc_int (p:Int→Bool) (f:FuncId) (caps:List T) (hcap:imL caps = true) (l:List Int) (hf:∀ y∈l,Spc Tryd.prog f (vI y :: caps) [] (vB (p y)) []) (hl:l.length < 4611686018427387904) :
 Spc Tryd.prog F_slices_IndexFunc_int [.sl 1 (l.map vI),.clo f caps] [] (vI (idxI p l)) []:=by
 refine spec_of_ir fn_slices_IndexFunc_int mixm (by simp) fun e _ hst=>W_start ?_
 unfold ir_slices_IndexFunc_int
 refine sW ?_
 refine W_loopF mixm (α:=Nat) [8] (fun i=>i≤l.length∧((l.take i).any p = false)) (fun i=>[(8,vI i)]) (fun i=>[]) (fun i=>l.length - i) 0 ⟨by omega,?_⟩ ?_ fun i hi=>?_
 ·simp
 ·refine .of [] [] rfl (by first | rfl | (rw [hst];rfl)) ?_ ?_
  all_goals (try exact clA)
 simp only [tl,tl2,tl4,↓un_u,isCallR,entX,argFr,ret,retI,retB,intT,unT,endR,ressR,resR,tupT,bslR,boxR,lenAll,↓reduceIte,Nat.reduceEqDiff,Nat.reduceAdd,Nat.reduceMul,Nat.reduceLT,Nat.reduceLeDiff,reduceCtorEq,Int.reduceLE,Int.reduceLT,ne_eq,Int.reduceEq,not_false_eq_true,decide_true,decide_false,Int.reduceToNat,tl3,Int.reduceBNe,Int.reduceBEq,rmK,rm1,not_true_eq_false,decide_eq_true_eq,decide_eq_false_iff_not]
 refine ⟨fun h=>?_,fun h=>?_⟩
 ·have hi2:i < l.length:=by omega
  have hwi:=i64_succ (i:=i) (by omega)
  simp only [tl,tl2,tl4,↓un_u,isCallR,entX,argFr,ret,retI,retB,intT,unT,endR,ressR,resR,tupT,bslR,boxR,lenAll,↓reduceIte,Nat.reduceEqDiff,Nat.reduceAdd,Nat.reduceMul,Nat.reduceLT,Nat.reduceLeDiff,reduceCtorEq,Int.reduceLE,Int.reduceLT,ne_eq,Int.reduceEq,not_false_eq_true,decide_true,decide_false,Int.reduceToNat,tl3,Int.reduceBNe,Int.reduceBEq,rmK,rm1,not_true_eq_false,Int.toNat_natCast,getD_mapT hi2,hwi,cells_v]
  refine ⟨by omega,?_⟩
  refine C1.im (hf l[i] (List.getElem_mem hi2)) (imAL_cons rfl hcap) rfl ?_
  refine sW ?_
  refine ⟨fun h3=>?_,fun h3=>⟨i + 1,⟨by omega,any_snoc hi2 hi.2 h3⟩,by omega,?_⟩⟩
  ·rw [idxI,if_pos (any_at hi2 h3),findIdx_at hi2 hi.2 h3]
   exact .imR rfl rfl
  ·refine .of [] [] rfl (by first | rfl | (rw [hst];rfl)) ?_ ?_
   all_goals (try exact clA)
 ·have h2:i = l.length:=by omega
  have h3:=hi.2
  rw [h2,List.take_length] at h3
  rw [idxI,if_neg (by rw [h3];simp)]
  exact .imR rfl rfl
theorem c_slices_ContainsFunc_int (p:Int→Bool) (f:FuncId) (caps:List T) (hcap:imL caps = true) (l:List Int) (hf:∀ y∈l,Spc Tryd.prog f (vI y :: caps) [] (vB (p y)) []) (hl:l.length < 4611686018427387904) :
 Spc Tryd.prog F_slices_ContainsFunc_int [.sl 1 (l.map vI),.clo f caps] [] (vB (l.any p)) []:=by
 refine spec_of_ir fn_slices_ContainsFunc_int mixm (by simp) fun e _ hst=>W_start ?_
 unfold ir_slices_ContainsFunc_int
 refine sW ?_
 refine C1.im (c_slices_IndexFunc_int p f caps hcap l hf hl) (imAL_clo rfl hcap) rfl ?_
 refine sW ?_
 rw [show decide (idxI p l≥0) = l.any p from idxI_ge p l]
 exact .imR rfl rfl
def idxN (n:Int):List Int→Nat
 | []=>0
 | x :: r=>if x = n then 0 else idxN n r + 1
theorem idxN_at {n:Int}:∀ {l:List Int} {i:Nat} (h:i < l.length),n∉l.take i→l[i] = n→idxN n l = i
 | [],i,h,_,_=>by simp at h
 | x :: r,0,h,_,hp=>by simp at hp;simp [idxN,hp]
 | x :: r,i + 1,h,h1,hp=>by
   simp only [List.take_succ_cons,List.mem_cons,not_or] at h1
   simp only [idxN]
   rw [if_neg (fun e=>h1.1 e.symm),idxN_at (l:=r) (i:=i) (by simpa using h) h1.2 (by simpa using hp)]
def indexI (l:List Int) (n:Int):Int:=if n∈l then idxN n l else -1
theorem c_slices_Index_int (l:List Int) (n:Int) (hl:l.length < 4611686018427387904):Spc Tryd.prog F_slices_Index_int [vIs l,vI n] [] (vI (indexI l n)) []:=by
 refine spec_of_ir fn_slices_Index_int mixm (by simp) fun e _ hst=>W_start ?_
 unfold ir_slices_Index_int
 refine sW ?_
 refine W_loopF mixm (α:=Nat) [8] (fun i=>i≤l.length∧(n∉l.take i)) (fun i=>[(8,vI i)]) (fun i=>[]) (fun i=>l.length - i) 0 ⟨by omega,?_⟩ ?_ fun i hi=>?_
 ·simp
 ·refine .of [] [] rfl (by first | rfl | (rw [hst];rfl)) ?_ ?_
  all_goals (try exact clA)
 simp only [tl,tl2,tl4,↓un_u,isCallR,entX,argFr,ret,retI,retB,intT,unT,endR,ressR,resR,tupT,bslR,boxR,lenAll,↓reduceIte,Nat.reduceEqDiff,Nat.reduceAdd,Nat.reduceMul,Nat.reduceLT,Nat.reduceLeDiff,reduceCtorEq,Int.reduceLE,Int.reduceLT,ne_eq,Int.reduceEq,not_false_eq_true,decide_true,decide_false,Int.reduceToNat,tl3,Int.reduceBNe,Int.reduceBEq,rmK,rm1,not_true_eq_false,decide_eq_true_eq,decide_eq_false_iff_not]
 refine ⟨fun h=>?_,fun h=>?_⟩
 ·have hi2:i < l.length:=by omega
  have hwi:=i64_succ (i:=i) (by omega)
  simp only [tl,tl2,tl4,↓un_u,isCallR,entX,argFr,ret,retI,retB,intT,unT,endR,ressR,resR,tupT,bslR,boxR,lenAll,↓reduceIte,Nat.reduceEqDiff,Nat.reduceAdd,Nat.reduceMul,Nat.reduceLT,Nat.reduceLeDiff,reduceCtorEq,Int.reduceLE,Int.reduceLT,ne_eq,Int.reduceEq,not_false_eq_true,decide_true,decide_false,Int.reduceToNat,tl3,Int.reduceBNe,Int.reduceBEq,rmK,rm1,not_true_eq_false,Int.toNat_natCast,getD_mapT hi2,hwi,beq_iff_eq,beq_eq_false_iff_ne]
  refine ⟨by omega,fun h3=>?_,fun h3=>⟨i + 1,⟨by omega,?_⟩,by omega,?_⟩⟩
  ·have hm:n∈l:=by rw [h3];exact List.getElem_mem hi2
   rw [indexI,if_pos hm,idxN_at hi2 hi.2 h3.symm]
   exact .imR rfl rfl
  ·rw [take_snoc hi2,List.mem_append]
   rintro (h4 | h4)
   ·exact hi.2 h4
   ·simp at h4;exact h3 h4
  ·refine .of [] [] rfl (by first | rfl | (rw [hst];rfl)) ?_ ?_
   all_goals (try exact clA)
 ·have h2:i = l.length:=by omega
  have h3:=hi.2
  rw [h2,List.take_length] at h3
  rw [indexI,if_neg h3]
  exact .imR rfl rfl
theorem c_slices_Contains_int (l:List Int) (n:Int) (hl:l.length < 4611686018427387904):Spc Tryd.prog F_slices_Contains_int [vIs l,vI n] [] (vB (l.contains n)) []:=by
 refine spec_of_ir fn_slices_Contains_int mixm (by simp) fun e _ hst=>W_start ?_
 unfold ir_slices_Contains_int
 refine sW ?_
 refine C1.im (c_slices_Index_int l n hl) rfl (by rfl) ?_
 refine sW ?_
 refine .imR ?_ rfl
 unfold indexI
 by_cases h:n∈l
 ·rw [if_pos h,List.contains_iff_mem.2 h];simp
 ·rw [if_neg h]
  cases hc:l.contains n
  ·simp
  ·exact absurd (List.contains_iff_mem.1 hc) h
def maxF (l:List Int):Int:=(l.drop 1).foldl maxI (l.getD 0 0)
theorem max_snoc {l:List Int} {i:Nat} (h:i < l.length) (h0:0 < i):maxF (l.take (i + 1)) = maxI (maxF (l.take i)) l[i]:=by
 unfold maxF
 rw [take_snoc h,List.drop_append_of_le_length (by rw [List.length_take];omega),List.foldl_append]
 have:∀ r:List Int,(l.take i ++ r).getD 0 0 = (l.take i).getD 0 0:=fun r=>by
  rw [List.getD_eq_getElem?_getD,List.getD_eq_getElem?_getD,List.getElem?_append_left (by rw [List.length_take];omega)]
 rw [this]
 rfl
theorem c_slices_Max_int (l:List Int) (h0:0 < l.length) (hl:l.length < 4611686018427387904):Spc Tryd.prog F_slices_Max_int [vIs l] [] (vI (maxF l)) []:=by
 refine spec_of_ir fn_slices_Max_int mixm (by simp) fun e _ hst=>W_start ?_
 unfold ir_slices_Max_int
 refine sD ?_
 refine ⟨fun h=>absurd h (by omega),fun _=>?_⟩
 have e0:=getD_mapT (f:=vI) h0
 simp only [e0]
 refine sW ?_
 refine ⟨by omega,?_⟩
 refine W_loopF mixm (α:=Nat) [3,4] (fun i=>1≤i∧i≤l.length) (fun i=>[(3,vI (maxF (l.take i))),(4,vI i)]) (fun _=>[]) (fun i=>l.length - i) 1 ⟨by omega,by omega⟩ ?_ fun i hi=>?_
 ·have:maxF (l.take 1) = l[0]:=by
   obtain ⟨x,r,rfl⟩:∃ x r,l = x :: r:=by
    cases l with
    | nil=>simp at h0
    | cons x r=>exact ⟨x,r,rfl⟩
   rfl
  rw [this]
  refine .of [] [] rfl (by first | rfl | (rw [hst];rfl)) ?_ ?_
  all_goals (try exact clA)
 simp only [tl,tl2,tl4,↓un_u,isCallR,entX,argFr,ret,retI,retB,intT,unT,endR,ressR,resR,tupT,bslR,boxR,lenAll,↓reduceIte,Nat.reduceEqDiff,Nat.reduceAdd,Nat.reduceMul,Nat.reduceLT,Nat.reduceLeDiff,reduceCtorEq,Int.reduceLE,Int.reduceLT,ne_eq,Int.reduceEq,not_false_eq_true,decide_true,decide_false,Int.reduceToNat,tl3,Int.reduceBNe,Int.reduceBEq,rmK,rm1,not_true_eq_false,decide_eq_true_eq,decide_eq_false_iff_not]
 refine ⟨fun h=>?_,fun h=>?_⟩
 ·have hi2:i < l.length:=by omega
  have hwi:=i64_succ (i:=i) (by omega)
  simp only [tl,tl2,tl4,↓un_u,isCallR,entX,argFr,ret,retI,retB,intT,unT,endR,ressR,resR,tupT,bslR,boxR,lenAll,↓reduceIte,Nat.reduceEqDiff,Nat.reduceAdd,Nat.reduceMul,Nat.reduceLT,Nat.reduceLeDiff,reduceCtorEq,Int.reduceLE,Int.reduceLT,ne_eq,Int.reduceEq,not_false_eq_true,decide_true,decide_false,Int.reduceToNat,tl3,Int.reduceBNe,Int.reduceBEq,rmK,rm1,not_true_eq_false,Int.toNat_natCast,getD_mapT hi2,hwi]
  refine ⟨by omega,i + 1,by omega,by omega,?_⟩
  rw [max_snoc hi2 (by omega)]
  refine .of [] [] rfl (by first | rfl | (rw [hst];rfl)) ?_ ?_
  all_goals (try exact clA)
 ·have hi2:i = l.length:=by omega
  subst hi2
  rw [List.take_length]
  exact .imR rfl rfl
theorem gN_max:∀ {l:List Int},0 < l.length→gN l = maxI 0 (1 + maxF l):=by
 intro l h
 have key:∀ i,1≤i→i≤l.length→gN (l.take i) = maxI 0 (1 + maxF (l.take i)):=by
  intro i
  induction i with
  | zero=>intro h;omega
  | succ i ih=>
    intro _ h2
    by_cases h1:i = 0
    ·subst h1
     obtain ⟨x,r,rfl⟩:∃ x r,l = x :: r:=by
      cases l with
      | nil=>simp at h
      | cons x r=>exact ⟨x,r,rfl⟩
     show gStep 0 x = maxI 0 (1 + x)
     unfold gStep
     rw [Int.add_comm]
    ·rw [g_snoc (by omega),ih (by omega) (by omega),max_snoc (by omega) (by omega)]
     unfold maxI
     split <;> split <;> (try split) <;> (try split) <;> omega
 have:=key l.length h (Nat.le_refl _)
 rwa [List.take_length] at this
theorem c_cells_product (l:List Int) (ha:l.all szOk = true) (hl:l.length≤4):Spc Tryd.prog F_cells_product [vIs l] [] (vI (prodI l)) []:=by
 refine spec_of_ir fn_cells_product mixm (by simp) fun e _ hst=>W_start ?_
 unfold ir_cells_product
 refine sW ?_
 refine W_loopF mixm (α:=Nat) [3,8] (fun i=>i≤l.length) (fun i=>[(3,vI (prodI (l.take i))),(8,vI i)]) (fun i=>[]) (fun i=>l.length - i) 0 (by omega) ?_ fun i hi=>?_
 ·refine .of [] [] rfl (by first | rfl | (rw [hst];rfl)) ?_ ?_
  all_goals (try exact clA)
 simp only [tl,tl2,tl4,↓un_u,isCallR,entX,argFr,ret,retI,retB,intT,unT,endR,ressR,resR,tupT,bslR,boxR,lenAll,↓reduceIte,Nat.reduceEqDiff,Nat.reduceAdd,Nat.reduceMul,Nat.reduceLT,Nat.reduceLeDiff,reduceCtorEq,Int.reduceLE,Int.reduceLT,ne_eq,Int.reduceEq,not_false_eq_true,decide_true,decide_false,Int.reduceToNat,tl3,Int.reduceBNe,Int.reduceBEq,rmK,rm1,not_true_eq_false,decide_eq_true_eq,decide_eq_false_iff_not]
 refine ⟨fun h=>?_,fun h=>?_⟩
 ·have hi2:i < l.length:=by omega
  have hwi:=i64_succ (i:=i) (by omega)
  simp only [tl,tl2,tl4,↓un_u,isCallR,entX,argFr,ret,retI,retB,intT,unT,endR,ressR,resR,tupT,bslR,boxR,lenAll,↓reduceIte,Nat.reduceEqDiff,Nat.reduceAdd,Nat.reduceMul,Nat.reduceLT,Nat.reduceLeDiff,reduceCtorEq,Int.reduceLE,Int.reduceLT,ne_eq,Int.reduceEq,not_false_eq_true,decide_true,decide_false,Int.reduceToNat,tl3,Int.reduceBNe,Int.reduceBEq,rmK,rm1,not_true_eq_false,Int.toNat_natCast,getD_mapT hi2,hwi]
  have hk:1≤l[i]∧l[i]≤8:=by simpa [szOk] using List.all_eq_true.1 ha l[i] (List.getElem_mem hi2)
  have hat:(l.take i).all szOk = true:=List.all_eq_true.2 fun x hx=>List.all_eq_true.1 ha x (List.mem_of_mem_take hx)
  rw [prod_step hi2 hat hl hk]
  refine ⟨by omega,i + 1,by omega,by omega,?_⟩
  refine .of [] [] rfl (by first | rfl | (rw [hst];rfl)) ?_ ?_
  all_goals (try exact clA)
 ·have hi2:i = l.length:=by omega
  subst hi2
  rw [List.take_length]
  exact .imR rfl rfl
theorem c_ref28_Count (sz:List Int) (hl:sz.length < 4611686018427387904):Spc Tryd.prog F_ref28_Count [spT sz] [] (vI (cntS sz)) []:=by
 refine spec_of_ir fn_ref28_Count mixm (by simp) fun e _ hst=>W_start ?_
 unfold ir_ref28_Count
 refine sW ?_
 refine C1.shut [] (c_ref28_Check sz hl) ?_ (by rfl) rfl ?_
 ·simp only [ltSto,ltO2,ltO1,ltAs,ltA,ltC,ltC0,ltC0s,ltCs,ltT,ltFr,ltS,wrOk,wrO,TL.get,hasFr,↓reduceIte,Nat.reduceEqDiff,reduceCtorEq,Option.getD_some,Option.isSome_some,List.length_map,List.length_append,List.length_cons,List.length_nil,List.append_nil,List.mem_singleton,List.mem_cons,List.not_mem_nil,and_true,true_and,and_self,imp_self,forall_const,false_implies,implies_true,true_implies,or_false,Bool.false_eq_true,Bool.true_eq_false,ImXs_nil,true_or,or_true,false_or,false_and,and_false,rmK,rm1]
 simp only [tl,tl2,tl4,↓un_u,isCallR,entX,argFr,ret,retI,retB,intT,unT,endR,ressR,resR,tupT,bslR,boxR,lenAll,↓reduceIte,Nat.reduceEqDiff,Nat.reduceAdd,Nat.reduceMul,Nat.reduceLT,Nat.reduceLeDiff,reduceCtorEq,Int.reduceLE,Int.reduceLT,ne_eq,Int.reduceEq,not_false_eq_true,decide_true,decide_false,Int.reduceToNat,tl3,Int.reduceBNe,Int.reduceBEq,rmK,rm1,not_true_eq_false,bne_iff_ne,bne_eq_false_iff_eq]
 refine ⟨fun h=>?_,fun h=>?_⟩
 ·rw [cntS,if_neg h]
  exact .imR rfl rfl
 obtain ⟨h1,h2,h3⟩:=chkS_ok.1 h
 rw [cntS,if_pos h]
 refine W_loopF mixm (α:=Nat) [3,12] (fun i=>i≤sz.length) (fun i=>[(3,vI (prodI (sz.take i))),(12,vI i)]) (fun i=>[]) (fun i=>sz.length - i) 0 (by omega) ?_ fun i hi=>?_
 ·refine .of [] [] rfl (by first | rfl | (rw [hst];rfl)) ?_ ?_
  all_goals (try exact clA)
 simp only [tl,tl2,tl4,↓un_u,isCallR,entX,argFr,ret,retI,retB,intT,unT,endR,ressR,resR,tupT,bslR,boxR,lenAll,↓reduceIte,Nat.reduceEqDiff,Nat.reduceAdd,Nat.reduceMul,Nat.reduceLT,Nat.reduceLeDiff,reduceCtorEq,Int.reduceLE,Int.reduceLT,ne_eq,Int.reduceEq,not_false_eq_true,decide_true,decide_false,Int.reduceToNat,tl3,Int.reduceBNe,Int.reduceBEq,rmK,rm1,not_true_eq_false,decide_eq_true_eq,decide_eq_false_iff_not]
 refine ⟨fun h=>?_,fun h=>?_⟩
 ·have hi2:i < sz.length:=by omega
  have hwi:=i64_succ (i:=i) (by omega)
  simp only [tl,tl2,tl4,↓un_u,isCallR,entX,argFr,ret,retI,retB,intT,unT,endR,ressR,resR,tupT,bslR,boxR,lenAll,↓reduceIte,Nat.reduceEqDiff,Nat.reduceAdd,Nat.reduceMul,Nat.reduceLT,Nat.reduceLeDiff,reduceCtorEq,Int.reduceLE,Int.reduceLT,ne_eq,Int.reduceEq,not_false_eq_true,decide_true,decide_false,Int.reduceToNat,tl3,Int.reduceBNe,Int.reduceBEq,rmK,rm1,not_true_eq_false,Int.toNat_natCast,getD_mapT hi2,hwi]
  have hk:1≤sz[i]∧sz[i]≤8:=SpOk.get ⟨h1,h2,h3⟩ hi2
  have hat:(sz.take i).all szOk = true:=List.all_eq_true.2 fun x hx=>List.all_eq_true.1 h2 x (List.mem_of_mem_take hx)
  rw [prod_step hi2 hat h1.2 hk]
  refine ⟨by omega,i + 1,by omega,by omega,?_⟩
  refine .of [] [] rfl (by first | rfl | (rw [hst];rfl)) ?_ ?_
  all_goals (try exact clA)
 ·have hi2:i = sz.length:=by omega
  subst hi2
  rw [List.take_length]
  exact .imR rfl rfl
end Go.Proofs
