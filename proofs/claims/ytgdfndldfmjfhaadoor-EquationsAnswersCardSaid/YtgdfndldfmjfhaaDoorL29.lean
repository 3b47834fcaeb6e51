import Derived.Test.YtgdfndldfmjfhaaDoorK29
set_option linter.unusedSimpArgs false
set_option linter.unusedVariables false
namespace Go.Proofs
open Go Go.TL
theorem c_slices_IndexFunc_Equation (p:Eqn→Bool) (f:FuncId) (caps:List T) (hcap:imL caps = true) (l:List Eqn) (hf:∀ y∈l,Spc Tryd.prog f (eqnT y :: caps) [] (vB (p y)) []) (hl:l.length < 4611686018427387904) :
 Spc Tryd.prog F_slices_IndexFunc_Equation [.sl 2 (l.map eqnT),.clo f caps] [] (vI (idxI p l)) []:=by
 refine spec_of_ir fn_slices_IndexFunc_Equation mixm (by simp) fun e _ hst=>W_start ?_
 unfold ir_slices_IndexFunc_Equation
 refine sW ?_
 refine W_loopF mixm (α:=Nat) [8] (fun i=>i≤l.length∧((l.take i).any p = false)) (fun i=>[(8,vI i)]) (fun i=>[]) (fun i=>l.length - i) 0 ⟨by omega,?_⟩ ?_ fun i hi=>?_
 ·simp
 ·refine .of [] [] rfl (by first | rfl | (rw [hst];rfl)) ?_ ?_
  all_goals (try exact clA)
 simp only [tl,tl2,tl4,↓un_u,isCallR,entX,argFr,ret,retI,retB,intT,unT,endR,ressR,resR,tupT,bslR,boxR,lenAll,↓reduceIte,Nat.reduceEqDiff,Nat.reduceAdd,Nat.reduceMul,Nat.reduceLT,Nat.reduceLeDiff,reduceCtorEq,Int.reduceLE,Int.reduceLT,ne_eq,Int.reduceEq,not_false_eq_true,decide_true,decide_false,Int.reduceToNat,tl3,Int.reduceBNe,Int.reduceBEq,rmK,rm1,not_true_eq_false,decide_eq_true_eq,decide_eq_false_iff_not]
 refine ⟨fun h=>?_,fun h=>?_⟩
 ·have hi2:i < l.length:=by omega
  have hwi:=i64_succ (i:=i) (by omega)
  simp only [tl,tl2,tl4,↓un_u,isCallR,entX,argFr,ret,retI,retB,intT,unT,endR,ressR,resR,tupT,bslR,boxR,lenAll,↓reduceIte,Nat.reduceEqDiff,Nat.reduceAdd,Nat.reduceMul,Nat.reduceLT,Nat.reduceLeDiff,reduceCtorEq,Int.reduceLE,Int.reduceLT,ne_eq,Int.reduceEq,not_false_eq_true,decide_true,decide_false,Int.reduceToNat,tl3,Int.reduceBNe,Int.reduceBEq,rmK,rm1,not_true_eq_false,Int.toNat_natCast,getD_mapT hi2,hwi,cells_v]
  refine ⟨by omega,?_⟩
  refine C1.im (hf l[i] (List.getElem_mem hi2)) (imAL_cons rfl hcap) rfl ?_
  refine sW ?_
  refine ⟨fun h3=>?_,fun h3=>⟨i + 1,⟨by omega,any_snoc hi2 hi.2 h3⟩,by omega,?_⟩⟩
  ·rw [idxI,if_pos (any_at hi2 h3),findIdx_at hi2 hi.2 h3]
   exact .imR rfl rfl
  ·refine .of [] [] rfl (by first | rfl | (rw [hst];rfl)) ?_ ?_
   all_goals (try exact clA)
 ·have h2:i = l.length:=by omega
  have h3:=hi.2
  rw [h2,List.take_length] at h3
  rw [idxI,if_neg (by rw [h3];simp)]
  exact .imR rfl rfl
theorem c_slices_ContainsFunc_Equation (p:Eqn→Bool) (f:FuncId) (caps:List T) (hcap:imL caps = true) (l:List Eqn) (hf:∀ y∈l,Spc Tryd.prog f (eqnT y :: caps) [] (vB (p y)) []) (hl:l.length < 4611686018427387904) :
 Spc Tryd.prog F_slices_ContainsFunc_Equation [.sl 2 (l.map eqnT),.clo f caps] [] (vB (l.any p)) []:=by
 refine spec_of_ir fn_slices_ContainsFunc_Equation mixm (by simp) fun e _ hst=>W_start ?_
 unfold ir_slices_ContainsFunc_Equation
 refine sW ?_
 refine C1.im (c_slices_IndexFunc_Equation p f caps hcap l hf hl) (imAL_clo rfl hcap) rfl ?_
 refine sW ?_
 rw [show decide (idxI p l≥0) = l.any p from idxI_ge p l]
 exact .imR rfl rfl
theorem c_equations_right (count:Int) (x:Eqn) (hl:x.cells.length < 4611686018427387904):Spc Tryd.prog F_equations_right [vI count,eqnT x] [] (vB (eqOk count x)) []:=by
 have hv:=c_equations_value x.val
 refine spec_of_ir fn_equations_right mixm (by simp) fun e _ hst=>W_start ?_
 unfold ir_equations_right
 refine sD ?_
 refine C2.im (fun _=>hv) (fun _=>rfl) (by rfl) ?_
 simp only [tl,tl2,tl4,↓un_u,isCallR,entX,argFr,ret,retI,retB,intT,unT,endR,ressR,resR,tupT,bslR,boxR,lenAll,↓reduceIte,Nat.reduceEqDiff,Nat.reduceAdd,Nat.reduceMul,Nat.reduceLT,Nat.reduceLeDiff,reduceCtorEq,Int.reduceLE,Int.reduceLT,ne_eq,Int.reduceEq,not_false_eq_true,decide_true,decide_false,Int.reduceToNat,tl3,Int.reduceBNe,Int.reduceBEq,rmK,rm1,not_true_eq_false,decide_eq_true_eq,decide_eq_false_iff_not,Bool.or_eq_true,Bool.or_eq_false_iff,Bool.and_eq_true,Bool.and_eq_false_iff,beq_iff_eq,beq_eq_false_iff_ne,Bool.not_eq_true',Bool.not_eq_false']
 refine ⟨fun h=>?_,fun h=>?_⟩
 ·have:eqOk count x = false:=by
   unfold eqOk
   rcases h with h | h
   ·have:x.cells = []:=List.eq_nil_of_length_eq_zero (by omega)
    rw [this];rfl
   ·rw [h];simp
  rw [this]
  refine .of [] [] rfl (by first | rfl | (rw [hst];rfl)) ?_ ?_
  all_goals (try exact clA)
 have he:eqOk count x = ascF count x.cells (-1):=by
  unfold eqOk
  rw [h.2]
  cases hc:x.cells with
  | nil=>rw [hc] at h;simp at h
  | cons _ _=>simp
 rw [he]
 refine W_loopF mixm (α:=Nat×Int) [5,21] (fun y=>y.1≤x.cells.length∧ascF count x.cells (-1) = ascF count (x.cells.drop y.1) y.2) (fun y=>[(5,vI y.2),(21,vI y.1)]) (fun _=>[]) (fun y=>x.cells.length - y.1) (0,-1) ⟨by simp,by simp⟩ ?_ fun y hy=>?_
 ·refine .of [] [] rfl (by first | rfl | (rw [hst];rfl)) ?_ ?_
  all_goals (try exact clA)
 obtain ⟨i,b⟩:=y
 obtain ⟨hi,ha⟩:=hy
 dsimp only at hi ha
 simp only [tl,tl2,tl4,↓un_u,isCallR,entX,argFr,ret,retI,retB,intT,unT,endR,ressR,resR,tupT,bslR,boxR,lenAll,↓reduceIte,Nat.reduceEqDiff,Nat.reduceAdd,Nat.reduceMul,Nat.reduceLT,Nat.reduceLeDiff,reduceCtorEq,Int.reduceLE,Int.reduceLT,ne_eq,Int.reduceEq,not_false_eq_true,decide_true,decide_false,Int.reduceToNat,tl3,Int.reduceBNe,Int.reduceBEq,rmK,rm1,not_true_eq_false,decide_eq_true_eq,decide_eq_false_iff_not]
 refine ⟨fun h=>?_,fun h=>?_⟩
 ·have hd:=List.drop_eq_getElem_cons (show i < x.cells.length by omega)
  rw [hd] at ha
  simp only [ascF] at ha
  have hi2:i < x.cells.length:=by omega
  have hwi:=i64_succ (i:=i) (by omega)
  simp only [tl,tl2,tl4,↓un_u,isCallR,entX,argFr,ret,retI,retB,intT,unT,endR,ressR,resR,tupT,bslR,boxR,lenAll,↓reduceIte,Nat.reduceEqDiff,Nat.reduceAdd,Nat.reduceMul,Nat.reduceLT,Nat.reduceLeDiff,reduceCtorEq,Int.reduceLE,Int.reduceLT,ne_eq,Int.reduceEq,not_false_eq_true,decide_true,decide_false,Int.reduceToNat,tl3,Int.reduceBNe,Int.reduceBEq,rmK,rm1,not_true_eq_false,Int.toNat_natCast,getD_mapT hi2,hwi,decide_eq_true_eq,decide_eq_false_iff_not,Bool.or_eq_true,Bool.or_eq_false_iff,Bool.and_eq_true,Bool.and_eq_false_iff]
  refine ⟨by omega,fun h3=>?_,fun h3=>?_⟩
  ·rw [if_pos h3] at ha
   rw [ha]
   refine .of [] [] rfl (by first | rfl | (rw [hst];rfl)) ?_ ?_
   all_goals (try exact clA)
  ·rw [if_neg (by omega)] at ha
   refine ⟨(i + 1,x.cells[i]),⟨by simp only;omega,ha⟩,by simp only;omega,?_⟩
   refine .of [] [] rfl (by first | rfl | (rw [hst];rfl)) ?_ ?_
   all_goals (try exact clA)
 ·have hi2:i = x.cells.length:=by omega
  subst hi2
  rw [List.drop_length] at ha
  rw [ha]
  refine .of [] [] rfl (by first | rfl | (rw [hst];rfl)) ?_ ?_
  all_goals (try exact clA)
theorem c_equations_Valid_1 (count:Int) (x:Eqn) (hl:x.cells.length < 4611686018427387904):Spc Tryd.prog F_equations_Valid_1 [eqnT x,.ip [vI count]] [] (vB (!eqOk count x)) []:=by
 refine spec_of_ir fn_equations_Valid_1 mixm (by simp) fun e _ hst=>W_start ?_
 unfold ir_equations_Valid_1
 refine sW ?_
 refine C1.shut [] (c_equations_right count x hl) ?_ (by rfl) rfl ?_
 ·simp only [ltSto,ltO2,ltO1,ltAs,ltA,ltC,ltC0,ltC0s,ltCs,ltT,ltFr,ltS,wrOk,wrO,TL.get,hasFr,↓reduceIte,Nat.reduceEqDiff,reduceCtorEq,Option.getD_some,Option.isSome_some,List.length_map,List.length_append,List.length_cons,List.length_nil,List.append_nil,List.mem_singleton,List.mem_cons,List.not_mem_nil,and_true,true_and,and_self,imp_self,forall_const,false_implies,implies_true,true_implies,or_false,Bool.false_eq_true,Bool.true_eq_false,ImXs_nil,true_or,or_true,false_or,false_and,and_false,rmK,rm1]
 refine sW ?_
 refine .of [] [] rfl (by first | rfl | (rw [hst];rfl)) ?_ ?_
 all_goals (try exact clA)
theorem any_notE {p:Eqn→Bool} (l:List Eqn):(l.any fun n=>!p n) = !(l.all p):=by
 induction l with
 | nil=>rfl
 | cons x r ih=>simp only [List.any_cons,List.all_cons,ih];cases p x <;> simp
set_option maxRecDepth 4000 in
theorem c_equations_Valid (count:Int) (l:List Eqn) (hl:l.length < 4611686018427387904) (hx:∀ x∈l,x.cells.length < 4611686018427387904):Spc Tryd.prog F_equations_Valid [vI count,vQs l] [] (vB (validB count l)) []:=by
 have hc:=c_slices_ContainsFunc_Equation (fun x=>!eqOk count x) F_equations_Valid_1 [.ip [vI count]] rfl l (fun x hm=>c_equations_Valid_1 count x (hx x hm)) hl
 refine spec_of_ir fn_equations_Valid mixm (by simp) fun e _ hst=>W_start ?_
 unfold ir_equations_Valid
 refine sW ?_
 refine C2.lend [4096] (fun _=>hc) (fun _=>?_) (by rfl) (by rfl) ?_
 ·all_goals (try simp only [ltSto,ltO2,ltO1,ltAs,ltA,ltC,ltC0,ltC0s,ltCs,ltT,ltFr,ltS,wrOk,wrO,TL.get,hasFr,↓reduceIte,Nat.reduceEqDiff,reduceCtorEq,Option.getD_some,Option.isSome_some,List.length_map,List.length_append,List.length_cons,List.length_nil,List.append_nil,List.mem_singleton,List.mem_cons,List.not_mem_nil,and_true,true_and,and_self,imp_self,forall_const,false_implies,implies_true,true_implies,or_false,Bool.false_eq_true,Bool.true_eq_false,ImXs_nil,true_or,or_true,false_or,false_and,and_false,rmK,rm1,List.map_append,List.map_cons,List.map_nil,List.cons_append,List.nil_append])
  all_goals (try (repeat' (first | exact ltXs_nil | (apply ltXs_map;intro _;exact ⟨rfl,rfl⟩) | (apply imXs_map;intro _;exact ⟨rfl,rfl⟩) | with_reducible apply imXs_append | with_reducible refine imXs_cons ⟨rfl,rfl⟩ ?_ | exact imXs_nil | with_reducible apply ltXs_append | with_reducible refine ltXs_cons ⟨rfl,rfl,?_⟩ ?_ | with_reducible apply And.intro | exact ltCs_im rfl | exact ltCs_im (by assumption) | (refine ⟨⟨?_,rfl,?_,rfl,?_⟩,trivial⟩ <;> first | (simp;done) | (apply imXs_map;intro _;exact ⟨rfl,rfl⟩)) | trivial | rfl | (rw [i64_succ (by omega)]) | omega)))
  simp only [ltSto,ltO2,ltO1,ltAs,ltA,ltC,ltC0,ltC0s,ltCs,ltT,ltFr,ltS,wrOk,wrO,TL.get,hasFr,↓reduceIte,Nat.reduceEqDiff,reduceCtorEq,Option.getD_some,Option.isSome_some,List.length_map,List.length_append,List.length_cons,List.length_nil,List.append_nil,List.mem_singleton,List.mem_cons,List.not_mem_nil,and_true,true_and,and_self,imp_self,forall_const,false_implies,implies_true,true_implies,or_false,Bool.false_eq_true,Bool.true_eq_false,ImXs_nil,true_or,or_true,false_or,false_and,and_false,rmK,rm1,ltP,List.cons_append,List.nil_append]
  exact ⟨by omega,rfl,imXs_cons ⟨rfl,rfl⟩ imXs_nil⟩
 rw [any_notE]
 have e1:decide ((l.length:Int)≤1152) = decide (l.length≤1152):=by rw [decide_eq_decide];omega
 simp only [tl,tl2,tl4,↓un_u,isCallR,entX,argFr,ret,retI,retB,intT,unT,endR,ressR,resR,tupT,bslR,boxR,lenAll,↓reduceIte,Nat.reduceEqDiff,Nat.reduceAdd,Nat.reduceMul,Nat.reduceLT,Nat.reduceLeDiff,reduceCtorEq,Int.reduceLE,Int.reduceLT,ne_eq,Int.reduceEq,not_false_eq_true,decide_true,decide_false,Int.reduceToNat,tl3,Int.reduceBNe,Int.reduceBEq,rmK,rm1,not_true_eq_false,Bool.not_not,e1]
 unfold validB
 refine .of [] [] rfl (by first | rfl | (rw [hst];rfl)) ?_ ?_
 all_goals (try exact clA)
theorem c_equations_Agrees_1 (n:Int):Spc Tryd.prog F_equations_Agrees_1 [vI n] [] (vB (!okV n)) []:=by
 refine spec_of_ir fn_equations_Agrees_1 mixm (by simp) fun e _ hst=>W_start ?_
 unfold ir_equations_Agrees_1
 refine sW ?_
 refine C1.im (c_equations_value n) rfl (by rfl) ?_
 refine sW ?_
 refine .of [] [] rfl (by first | rfl | (rw [hst];rfl)) ?_ ?_
 all_goals (try exact clA)
theorem agr_false {l:List Eqn} {t:List Int} {i:Nat} (h:i < l.length) (hf:agr1 t l[i] = false):agrees l t = false:=by
 unfold agrees
 rw [Bool.and_eq_false_iff]
 right
 rw [List.all_eq_false]
 exact ⟨l[i],List.getElem_mem h,by simp [hf]⟩
def inT (t:List Int) (k:Int):Bool:=decide (0≤k) && decide (k < (t.length:Int))
theorem agr1_eq (t:List Int) (x:Eqn):agr1 t x = (x.cells.all (inT t) && (sumT t x.cells == x.val)):=rfl
theorem c_equations_Agrees (l:List Eqn) (t:List Int) (hl:l.length < 4611686018427387904) (ht:t.length < 4611686018427387904) (hx:∀ x∈l,x.cells.length < 1000000):Spc Tryd.prog F_equations_Agrees [vQs l,vIs t] [] (vB (agrees l t)) []:=by
 refine spec_of_ir fn_equations_Agrees mixm (by simp) fun e _ hst=>W_start ?_
 unfold ir_equations_Agrees
 refine sW ?_
 refine C1.shut [] (c_slices_ContainsFunc_int (fun n=>!okV n) F_equations_Agrees_1 [] rfl t (fun n _=>c_equations_Agrees_1 n) ht) ?_ (by rfl) rfl ?_
 ·all_goals (try exact clA)
 rw [any_not]
 simp only [tl,tl2,tl4,↓un_u,isCallR,entX,argFr,ret,retI,retB,intT,unT,endR,ressR,resR,tupT,bslR,boxR,lenAll,↓reduceIte,Nat.reduceEqDiff,Nat.reduceAdd,Nat.reduceMul,Nat.reduceLT,Nat.reduceLeDiff,reduceCtorEq,Int.reduceLE,Int.reduceLT,ne_eq,Int.reduceEq,not_false_eq_true,decide_true,decide_false,Int.reduceToNat,tl3,Int.reduceBNe,Int.reduceBEq,rmK,rm1,not_true_eq_false,Bool.not_eq_true',Bool.not_eq_false']
 refine ⟨fun hk0=>?_,fun hk0=>?_⟩
 ·have:agrees l t = false:=by unfold agrees;rw [hk0];rfl
  rw [this]
  refine .of [] [] rfl (by first | rfl | (rw [hst];rfl)) ?_ ?_
  all_goals (try exact clA)
 refine W_loopF mixm (α:=Nat) [14] (fun i=>i≤l.length∧((l.take i).all (agr1 t) = true)) (fun i=>[(14,vI i)]) (fun i=>[]) (fun i=>l.length - i) 0 ⟨by omega,?_⟩ ?_ fun i hi=>?_
 ·rfl
 ·refine .of [] [] rfl (by first | rfl | (rw [hst];rfl)) ?_ ?_
  all_goals (try exact clA)
 simp only [tl,tl2,tl4,↓un_u,isCallR,entX,argFr,ret,retI,retB,intT,unT,endR,ressR,resR,tupT,bslR,boxR,lenAll,↓reduceIte,Nat.reduceEqDiff,Nat.reduceAdd,Nat.reduceMul,Nat.reduceLT,Nat.reduceLeDiff,reduceCtorEq,Int.reduceLE,Int.reduceLT,ne_eq,Int.reduceEq,not_false_eq_true,decide_true,decide_false,Int.reduceToNat,tl3,Int.reduceBNe,Int.reduceBEq,rmK,rm1,not_true_eq_false,decide_eq_true_eq,decide_eq_false_iff_not]
 refine ⟨fun h=>?_,fun h=>?_⟩
 ·have hxi:=hx _ (List.getElem_mem (show i < l.length by omega))
  have hi2:i < l.length:=by omega
  have hwi:=i64_succ (i:=i) (by omega)
  simp only [tl,tl2,tl4,↓un_u,isCallR,entX,argFr,ret,retI,retB,intT,unT,endR,ressR,resR,tupT,bslR,boxR,lenAll,↓reduceIte,Nat.reduceEqDiff,Nat.reduceAdd,Nat.reduceMul,Nat.reduceLT,Nat.reduceLeDiff,reduceCtorEq,Int.reduceLE,Int.reduceLT,ne_eq,Int.reduceEq,not_false_eq_true,decide_true,decide_false,Int.reduceToNat,tl3,Int.reduceBNe,Int.reduceBEq,rmK,rm1,not_true_eq_false,Int.toNat_natCast,getD_mapT hi2,hwi]
  have hbad:agr1 t l[i] = false→agrees l t = false:=fun hf=>agr_false hi2 hf
  have hgood:agr1 t l[i] = true→(l.take (i + 1)).all (agr1 t) = true:=fun hf=>by
   rw [take_snoc hi2,List.all_append,hi.2];simp [hf]
  obtain ⟨x,hxd⟩:∃ x,x = l[i]:=⟨_,rfl⟩
  rw [← hxd] at hxi hbad hgood ⊢
  refine ⟨by omega,?_⟩
  rw [agr1_eq] at hbad hgood
  refine W_loopF mixm (α:=Nat) [7,21] (fun j=>j≤x.cells.length∧((x.cells.take j).all (inT t) = true)) (fun j=>[(7,vI (sumT t (x.cells.take j))),(21,vI j)]) (fun j=>[(24584,.arr 2 [eqnT x] false)]) (fun j=>x.cells.length - j) 0 ⟨by omega,?_⟩ ?_ fun j hj=>?_
  ·rfl
  ·refine .of [(24584,some 24584)] [] rfl (by first | rfl | (rw [hst];rfl)) ?_ ?_
   all_goals (try exact clA)
  refine sD ?_
  refine ⟨fun h5=>?_,fun h5=>?_⟩
  ·have hj2:j < x.cells.length:=by omega
   have hwj:=i64_succ (i:=j) (by omega)
   simp only [tl,tl2,tl4,↓un_u,isCallR,entX,argFr,ret,retI,retB,intT,unT,endR,ressR,resR,tupT,bslR,boxR,lenAll,↓reduceIte,Nat.reduceEqDiff,Nat.reduceAdd,Nat.reduceMul,Nat.reduceLT,Nat.reduceLeDiff,reduceCtorEq,Int.reduceLE,Int.reduceLT,ne_eq,Int.reduceEq,not_false_eq_true,decide_true,decide_false,Int.reduceToNat,tl3,Int.reduceBNe,Int.reduceBEq,rmK,rm1,not_true_eq_false,Int.toNat_natCast,getD_mapT hj2,hwj,decide_eq_true_eq,decide_eq_false_iff_not,Bool.or_eq_true,Bool.or_eq_false_iff,Bool.and_eq_true,Bool.and_eq_false_iff]
   refine ⟨by omega,fun h6=>?_,fun h6=>?_⟩
   ·have hf:x.cells.all (inT t) = false:=all_at hj2 (by simp only [inT,Bool.and_eq_false_iff,decide_eq_false_iff_not];omega)
    rw [hbad (by rw [hf];rfl)]
    refine .of [] [] rfl (by first | rfl | (rw [hst];rfl)) ?_ ?_
    all_goals (try exact clA)
   ·have hk:x.cells[j].toNat < t.length:=by omega
    have hb1:=(sumT_bound hk0 (x.cells.take (j + 1)))
    have hsn:=sumT_snoc (t:=t) hj2
    rw [getD_get hk] at hsn
    have hlj:(x.cells.take (j + 1)).length≤x.cells.length:=by rw [List.length_take];omega
    have hw:IntKind.i64.wrap (sumT t (x.cells.take j) + t[x.cells[j].toNat]) = sumT t (x.cells.take (j + 1)):=by
     rw [← hsn,IntWalk.i64_in _ (by omega)]
    simp only [getD_mapT hk]
    simp only [tl,tl2,tl4,↓un_u,isCallR,entX,argFr,ret,retI,retB,intT,unT,endR,ressR,resR,tupT,bslR,boxR,lenAll,↓reduceIte,Nat.reduceEqDiff,Nat.reduceAdd,Nat.reduceMul,Nat.reduceLT,Nat.reduceLeDiff,reduceCtorEq,Int.reduceLE,Int.reduceLT,ne_eq,Int.reduceEq,not_false_eq_true,decide_true,decide_false,Int.reduceToNat,tl3,Int.reduceBNe,Int.reduceBEq,rmK,rm1,not_true_eq_false,hw]
    refine ⟨by omega,j + 1,⟨by omega,?_⟩,by omega,?_⟩
    ·rw [take_snoc hj2,List.all_append,hj.2]
     simp only [List.all_cons,List.all_nil,Bool.and_true,Bool.true_and,inT,Bool.and_eq_true,decide_eq_true_eq]
     omega
    ·refine .of [(24584,some 24584)] [] rfl (by first | rfl | (rw [hst];rfl)) ?_ ?_
     all_goals (try exact clA)
  ·have hj2:j = x.cells.length:=by omega
   subst hj2
   have h7:=hj.2
   rw [List.take_length] at h7 ⊢
   rw [h7,Bool.true_and] at hbad hgood
   simp only [tl,tl2,tl4,↓un_u,isCallR,entX,argFr,ret,retI,retB,intT,unT,endR,ressR,resR,tupT,bslR,boxR,lenAll,↓reduceIte,Nat.reduceEqDiff,Nat.reduceAdd,Nat.reduceMul,Nat.reduceLT,Nat.reduceLeDiff,reduceCtorEq,Int.reduceLE,Int.reduceLT,ne_eq,Int.reduceEq,not_false_eq_true,decide_true,decide_false,Int.reduceToNat,tl3,Int.reduceBNe,Int.reduceBEq,rmK,rm1,not_true_eq_false,bne_iff_ne,bne_eq_false_iff_eq]
   refine ⟨fun h8=>?_,fun h8=>⟨i + 1,⟨by omega,hgood (by simpa using h8)⟩,by omega,?_⟩⟩
   ·rw [hbad (by simpa using h8)]
    refine .of [] [] rfl (by first | rfl | (rw [hst];rfl)) ?_ ?_
    all_goals (try exact clA)
   ·refine .of [] [] rfl (by first | rfl | (rw [hst];rfl)) ?_ ?_
    all_goals (try exact clA)
 ·have hi2:i = l.length:=by omega
  subst hi2
  have h3:=hi.2
  rw [List.take_length] at h3
  have:agrees l t = true:=by unfold agrees;rw [hk0,h3];rfl
  rw [this]
  refine .of [] [] rfl (by first | rfl | (rw [hst];rfl)) ?_ ?_
  all_goals (try exact clA)
theorem c_ref28_Ints (a b:List Int) (ha:a.length < 4611686018427387904) (hb:b.length < 4611686018427387904):Spc Tryd.prog F_ref28_Ints [.sl 1 (a.map vI),.sl 1 (b.map vI)] [] (vB (sameL (fun x y:Int=>x == y) a b)) []:=by
 refine spec_of_ir fn_ref28_Ints mixm (by simp) fun e _ hst=>W_start ?_
 unfold ir_ref28_Ints
 refine sW ?_
 refine ⟨fun h=>?_,fun h=>?_⟩
 ·rw [sameL_ne (by simp at h;omega)]
  exact .imR rfl rfl
 have hl:a.length = b.length:=by simp at h;omega
 refine W_loopF mixm (α:=Nat) [13] (fun i=>i≤a.length∧(sameL (fun x y:Int=>x == y) (a.take i) (b.take i) = true)) (fun i=>[(13,vI i)]) (fun i=>[]) (fun i=>a.length - i) 0 ⟨by omega,?_⟩ ?_ fun i hi=>?_
 ·simp [sameL]
 ·refine .of [] [] rfl (by first | rfl | (rw [hst];rfl)) ?_ ?_
  all_goals (try exact clA)
 simp only [tl,tl2,tl4,↓un_u,isCallR,entX,argFr,ret,retI,retB,intT,unT,endR,ressR,resR,tupT,bslR,boxR,lenAll,↓reduceIte,Nat.reduceEqDiff,Nat.reduceAdd,Nat.reduceMul,Nat.reduceLT,Nat.reduceLeDiff,reduceCtorEq,Int.reduceLE,Int.reduceLT,ne_eq,Int.reduceEq,not_false_eq_true,decide_true,decide_false,Int.reduceToNat,tl3,Int.reduceBNe,Int.reduceBEq,rmK,rm1,not_true_eq_false,decide_eq_true_eq,decide_eq_false_iff_not]
 refine ⟨fun h=>?_,fun h=>?_⟩
 ·have hib:i < b.length:=by omega
  have hi2:i < a.length:=by omega
  have hwi:=i64_succ (i:=i) (by omega)
  simp only [tl,tl2,tl4,↓un_u,isCallR,entX,argFr,ret,retI,retB,intT,unT,endR,ressR,resR,tupT,bslR,boxR,lenAll,↓reduceIte,Nat.reduceEqDiff,Nat.reduceAdd,Nat.reduceMul,Nat.reduceLT,Nat.reduceLeDiff,reduceCtorEq,Int.reduceLE,Int.reduceLT,ne_eq,Int.reduceEq,not_false_eq_true,decide_true,decide_false,Int.reduceToNat,tl3,Int.reduceBNe,Int.reduceBEq,rmK,rm1,not_true_eq_false,Int.toNat_natCast,getD_mapT hi2,hwi,getD_mapT hib,cells_v]
  refine ⟨by omega,by omega,by kernel_rfl,fun h3=>?_,fun h3=>⟨i + 1,⟨by omega,?_⟩,by omega,?_⟩⟩
  ·rw [sameL_false (i:=i) hl (by omega) (by simpa  using h3)]
   exact .imR rfl rfl
  ·rw [sameL_snoc hi2 hib,hi.2]
   simpa  using h3
  ·refine .of [] [] rfl (by first | rfl | (rw [hst];rfl)) ?_ ?_
   all_goals (try exact clA)
 ·have h2:i = a.length:=by omega
  subst h2
  have h3:=hi.2
  rw [List.take_length,List.take_of_length_le (by omega)] at h3
  rw [h3]
  exact .imR rfl rfl
end Go.Proofs
