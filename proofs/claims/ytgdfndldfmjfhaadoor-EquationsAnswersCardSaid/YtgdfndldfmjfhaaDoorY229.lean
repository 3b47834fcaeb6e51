import Derived.Test.YtgdfndldfmjfhaaDoorY29
set_option linter.unusedSimpArgs false
set_option linter.unusedVariables false
namespace Go.Proofs
open Go Go.TL
set_option maxRecDepth 4000
theorem txtB_eq {a b:List Int} (ha:∀ k∈a,0≤k∧k < 100) (hb:∀ k∈b,0≤k∧k < 100):TL.eqS (txtB a) (txtB b) = (b == a):=by
 have h1:∀ l,(txtB l).toList = txtL l:=fun l=>by unfold txtB;rw [ByteArray.toList_eq]
 rw [Bool.eq_iff_iff,TL.eqS,beq_iff_eq,h1,h1,beq_iff_eq]
 exact ⟨fun h=>(txt_inj ha hb h).symm,fun h=>by rw [h]⟩
theorem c_equations_Reduce (count:Int) (l:List Eqn) (hl:l.length < 4611686018427387904) (hx:∀ x∈l,x.cells.length < 100000) :
 Spc Tryd.prog F_equations_Reduce [vI count,vQs l] [] (.tup [vQs (redA count l).1,vI (redA count l).2]) []:=by
 refine spec_of_ir fn_equations_Reduce mixm (by simp) fun e _ hst=>W_start ?_
 unfold ir_equations_Reduce
 refine sW ?_
 refine C1.shut [] (c_equations_Valid count l hl (fun x h=>by have:=hx x h;omega)) ?_ (by rfl) rfl ?_
 ·all_goals (try exact clA)
 simp only [tl,tl2,tl4,↓un_u,isCallR,entX,argFr,ret,retI,retB,intT,unT,endR,ressR,resR,tupT,bslR,boxR,lenAll,↓reduceIte,Nat.reduceEqDiff,Nat.reduceAdd,Nat.reduceMul,Nat.reduceLT,Nat.reduceLeDiff,reduceCtorEq,Int.reduceLE,Int.reduceLT,ne_eq,Int.reduceEq,not_false_eq_true,decide_true,decide_false,Int.reduceToNat,tl3,Int.reduceBNe,Int.reduceBEq,rmK,rm1,not_true_eq_false,Bool.not_eq_true',Bool.not_eq_false']
 refine ⟨fun h=>?_,fun h=>?_⟩
 ·rw [redA,if_pos h]
  refine .of [] [] rfl (by first | rfl | (rw [hst];rfl)) ?_ ?_
  all_goals (try exact clA)
 rw [redA,if_neg (by rw [h];simp)]
 obtain ⟨v1,v2,v3,v4⟩:=valid_parts h
 refine W_loopF mixm (α:=Nat×List Eqn) [7,20] (fun q=>q.1≤l.length∧q.2.length≤q.1∧RedOk q.2∧redF l [] = redF (l.drop q.1) q.2) (fun q=>[(7,.asl 1 q.2.length),(20,vI q.1)]) (fun q=>[(16384,.mp (.si (saidE txtB q.2))),(1,.arr 2 (q.2.map eqnT) false)]) (fun q=>l.length - q.1) (0,[]) ⟨by simp,by simp,⟨.nil,by simp⟩,by simp⟩ ?_ fun q hq=>?_
 ·simp only [List.map_nil,saidE]
  refine .of [(16384,some 16384),(1,none)] [] rfl (by first | rfl | (rw [hst];rfl)) ?_ ?_
  all_goals (try exact clA)
 obtain ⟨i,o⟩:=q
 obtain ⟨hi,ho1,ho2,ho3⟩:=hq
 dsimp only at hi ho1 ho2 ho3
 refine sD ?_
 refine ⟨fun h3=>?_,fun h3=>?_⟩
 ·have hd2:=List.drop_eq_getElem_cons (show i < l.length by omega)
  rw [hd2,redF] at ho3
  have hxi:=hx _ (List.getElem_mem (show i < l.length by omega))
  have hxv:=v4 _ (List.getElem_mem (show i < l.length by omega))
  have hwi:=i64_succ (i:=i) (by omega)
  have hi2:i < l.length:=by omega
  have hwi:=i64_succ (i:=i) (by omega)
  simp only [tl,tl2,tl4,↓un_u,isCallR,entX,argFr,ret,retI,retB,intT,unT,endR,ressR,resR,tupT,bslR,boxR,lenAll,↓reduceIte,Nat.reduceEqDiff,Nat.reduceAdd,Nat.reduceMul,Nat.reduceLT,Nat.reduceLeDiff,reduceCtorEq,Int.reduceLE,Int.reduceLT,ne_eq,Int.reduceEq,not_false_eq_true,decide_true,decide_false,Int.reduceToNat,tl3,Int.reduceBNe,Int.reduceBEq,rmK,rm1,not_true_eq_false,Int.toNat_natCast,getD_mapT hi2,hwi]
  refine ⟨by omega,?_⟩
  generalize l[i] = x at *
  have hx1:∀ k∈x.cells,0≤k∧k < 100:=fun k hk=>by have:=hxv.2 k hk;omega
  have hkey:∀ p∈o,TL.eqS (txtB x.cells) (txtB p.cells) = (p.cells == x.cells):=fun p hp=>txtB_eq hx1 (ho2.ok p hp)
  refine C1.im (c_equations_text x.cells (by omega) hx1) (by rfl) (by rfl) ?_
  have hlk:=look_map (eq:=TL.eqS) (txt:=txtB) (q:=x) hkey
  have hfi:=redS_find (q:=x) ho2
  simp only [tl,tl2,tl4,↓un_u,isCallR,entX,argFr,ret,retI,retB,intT,unT,endR,ressR,resR,tupT,bslR,boxR,lenAll,↓reduceIte,Nat.reduceEqDiff,Nat.reduceAdd,Nat.reduceMul,Nat.reduceLT,Nat.reduceLeDiff,reduceCtorEq,Int.reduceLE,Int.reduceLT,ne_eq,Int.reduceEq,not_false_eq_true,decide_true,decide_false,Int.reduceToNat,tl3,Int.reduceBNe,Int.reduceBEq,rmK,rm1,not_true_eq_false,hlk]
  cases hf:o.find? (fun p=>p.cells == x.cells) with
  | none=>
    rw [hf] at hfi
    dsimp only at hfi
    have has:=asg_map (eq:=TL.eqS) (txt:=txtB) (q:=x) (o:=o) fun p hp=>by
     rw [hkey p hp]
     have:=List.find?_eq_none.1 hf p hp
     simpa using this
    simp only [tl,tl2,tl4,↓un_u,isCallR,entX,argFr,ret,retI,retB,intT,unT,endR,ressR,resR,tupT,bslR,boxR,lenAll,↓reduceIte,Nat.reduceEqDiff,Nat.reduceAdd,Nat.reduceMul,Nat.reduceLT,Nat.reduceLeDiff,reduceCtorEq,Int.reduceLE,Int.reduceLT,ne_eq,Int.reduceEq,not_false_eq_true,decide_true,decide_false,Int.reduceToNat,tl3,Int.reduceBNe,Int.reduceBEq,rmK,rm1,not_true_eq_false,hf,Option.map_none,Option.isSome_none,Bool.not_false,has]
    refine C1.shut [] (c_slices_Clone_int x.cells (by omega)) ?_ (by rfl) rfl ?_
    ·simp only [ltSto,ltO2,ltO1,ltAs,ltA,ltC,ltC0,ltC0s,ltCs,ltT,ltFr,ltS,wrOk,wrO,TL.get,hasFr,↓reduceIte,Nat.reduceEqDiff,reduceCtorEq,Option.getD_some,Option.isSome_some,List.length_map,List.length_append,List.length_cons,List.length_nil,List.append_nil,List.mem_singleton,List.mem_cons,List.not_mem_nil,and_true,true_and,and_self,imp_self,forall_const,false_implies,implies_true,true_implies,or_false,Bool.false_eq_true,Bool.true_eq_false,ImXs_nil,true_or,or_true,false_or,false_and,and_false,rmK,rm1]
    have ho4:RedOk (o ++ [x]):=redS_ok ho2 hx1 hfi
    rw [hfi] at ho3
    simp only [tl,tl2,tl4,↓un_u,isCallR,entX,argFr,ret,retI,retB,intT,unT,endR,ressR,resR,tupT,bslR,boxR,lenAll,↓reduceIte,Nat.reduceEqDiff,Nat.reduceAdd,Nat.reduceMul,Nat.reduceLT,Nat.reduceLeDiff,reduceCtorEq,Int.reduceLE,Int.reduceLT,ne_eq,Int.reduceEq,not_false_eq_true,decide_true,decide_false,Int.reduceToNat,tl3,Int.reduceBNe,Int.reduceBEq,rmK,rm1,not_true_eq_false,hwi]
    refine ⟨by omega,by kernel_rfl,(i + 1,o ++ [x]),⟨by dsimp only;omega,by simp;omega,ho4,ho3⟩,by dsimp only;omega,?_⟩
    rw [show List.map eqnT o ++ [T.agg [vIs x.cells,vI x.val]] = (o ++ [x]).map eqnT by simp,show o.length + 1 = (o ++ [x]).length by simp]
    generalize o ++ [x] = o2
    refine .of [(16384,some 16384),(1,some 1)] [] rfl (by first | rfl | (rw [hst];rfl)) ?_ ?_
    all_goals (try exact clA)
  | some p=>
    rw [hf] at hfi
    dsimp only at hfi
    simp only [tl,tl2,tl4,↓un_u,isCallR,entX,argFr,ret,retI,retB,intT,unT,endR,ressR,resR,tupT,bslR,boxR,lenAll,↓reduceIte,Nat.reduceEqDiff,Nat.reduceAdd,Nat.reduceMul,Nat.reduceLT,Nat.reduceLeDiff,reduceCtorEq,Int.reduceLE,Int.reduceLT,ne_eq,Int.reduceEq,not_false_eq_true,decide_true,decide_false,Int.reduceToNat,tl3,Int.reduceBNe,Int.reduceBEq,rmK,rm1,not_true_eq_false,hf,Option.map_some,Option.isSome_some,Option.getD_some,Bool.not_true,hwi]
    refine ⟨fun h5=>?_,fun h5=>?_⟩
    ·rw [if_neg (by simpa using h5)] at hfi
     rw [hfi] at ho3
     rw [ho3]
     refine .of [] [] rfl (by first | rfl | (rw [hst];rfl)) ?_ ?_
     all_goals (try exact clA)
    ·rw [if_pos (by simpa using h5)] at hfi
     rw [hfi] at ho3
     refine ⟨(i + 1,o),⟨by dsimp only;omega,by dsimp only;omega,ho2,ho3⟩,by dsimp only;omega,?_⟩
     refine .of [(16384,some 16384),(1,some 1)] [] rfl (by first | rfl | (rw [hst];rfl)) ?_ ?_
     all_goals (try exact clA)
 ·have hil:i = l.length:=by omega
  subst hil
  rw [List.drop_length,redF] at ho3
  rw [ho3]
  refine .of [] [1] rfl (by first | rfl | (rw [hst];rfl)) ?_ ?_
  all_goals (try exact clA)
end Go.Proofs
