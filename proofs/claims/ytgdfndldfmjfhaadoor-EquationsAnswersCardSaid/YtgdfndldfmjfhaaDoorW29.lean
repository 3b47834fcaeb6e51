import Derived.Test.YtgdfndldfmjfhaaDoorR29
import Derived.Test.YtgdfndldfmjfhaaDoorV29
import Derived.Test.YtgdfndldfmjfhaaDoorT29
set_option linter.unusedSimpArgs false
set_option linter.unusedVariables false
namespace Go.Proofs
open Go Go.TL
open Go.TL.So
set_option maxRecDepth 4000
def cellsOf (l:List Eqn):List Int:=l.flatMap (·.cells)
def tchR (count:Int) (l:List Eqn):List Int:=(cellsOf l).filter (inC count)
theorem cellsOf_snoc {l:List Eqn} {i:Nat} (h:i < l.length):cellsOf (l.take (i + 1)) = cellsOf (l.take i) ++ l[i].cells:=by
 unfold cellsOf
 rw [take_snoc h,List.flatMap_append]
 simp
theorem cellsOf_take (l:List Eqn) (i:Nat):(cellsOf (l.take i)).length≤(cellsOf l).length:=by
 have e:cellsOf l = cellsOf (l.take i) ++ cellsOf (l.drop i):=by
  unfold cellsOf
  rw [← List.flatMap_append,List.take_append_drop]
 rw [e,List.length_append]
 omega
theorem cellsOf_at {l:List Eqn} {i:Nat} (h:i < l.length):l[i].cells.length≤(cellsOf l).length:=by
 have:=cellsOf_take l (i + 1)
 rw [cellsOf_snoc h,List.length_append] at this
 omega
theorem c_equations_Touched (count:Int) (l:List Eqn) (hl:l.length≤100000) (hc:(cellsOf l).length < 60000):Spc Tryd.prog F_equations_Touched [vI count,vQs l] [] (vIs (tchA count l)) []:=by
 refine spec_of_ir fn_equations_Touched mixm (by simp) fun e _ hst=>W_start ?_
 unfold ir_equations_Touched
 refine sW ?_
 have hlen:∀ i,(cellsOf (l.take i)).length < 60000:=fun i=>Nat.lt_of_le_of_lt (cellsOf_take l i) hc
 refine W_loopF mixm (α:=Nat) [5,12] (fun i=>i≤l.length) (fun i=>[(5,.asl 1 ((cellsOf (l.take i)).filter (inC count)).length),(12,vI i)]) (fun i=>[(1,.arr 1 (((cellsOf (l.take i)).filter (inC count)).map vI) false)]) (fun i=>l.length - i) 0 (by omega) ?_ fun i hi=>?_
 ·simp only [List.take_zero,cellsOf,List.flatMap_nil,List.filter_nil,List.length_nil,List.map_nil]
  refine .of [(1,none)] [] rfl (by first | rfl | (rw [hst];rfl)) ?_ ?_
  all_goals (try exact clA)
 have hli:=hlen i
 simp only [tl,tl2,tl4,↓un_u,isCallR,entX,argFr,ret,retI,retB,intT,unT,endR,ressR,resR,tupT,bslR,boxR,lenAll,↓reduceIte,Nat.reduceEqDiff,Nat.reduceAdd,Nat.reduceMul,Nat.reduceLT,Nat.reduceLeDiff,reduceCtorEq,Int.reduceLE,Int.reduceLT,ne_eq,Int.reduceEq,not_false_eq_true,decide_true,decide_false,Int.reduceToNat,tl3,Int.reduceBNe,Int.reduceBEq,rmK,rm1,not_true_eq_false,decide_eq_true_eq,decide_eq_false_iff_not]
 refine ⟨fun h=>?_,fun h=>?_⟩
 ·have hsn:=cellsOf_snoc (show i < l.length by omega)
  have hxi:=cellsOf_at (show i < l.length by omega)
  have hwi:=i64_succ (i:=i) (by omega)
  have hi2:i < l.length:=by omega
  have hwi:=i64_succ (i:=i) (by omega)
  simp only [tl,tl2,tl4,↓un_u,isCallR,entX,argFr,ret,retI,retB,intT,unT,endR,ressR,resR,tupT,bslR,boxR,lenAll,↓reduceIte,Nat.reduceEqDiff,Nat.reduceAdd,Nat.reduceMul,Nat.reduceLT,Nat.reduceLeDiff,reduceCtorEq,Int.reduceLE,Int.reduceLT,ne_eq,Int.reduceEq,not_false_eq_true,decide_true,decide_false,Int.reduceToNat,tl3,Int.reduceBNe,Int.reduceBEq,rmK,rm1,not_true_eq_false,Int.toNat_natCast,getD_mapT hi2,hwi]
  refine ⟨by omega,?_⟩
  generalize l[i] = x at *
  obtain ⟨q,hq⟩:∃ q:Nat→List Int,q = fun j=>(cellsOf (l.take i) ++ x.cells.take j).filter (inC count):=⟨_,rfl⟩
  have hq0:q 0 = (cellsOf (l.take i)).filter (inC count):=by rw [hq];simp
  have hqe:q x.cells.length = (cellsOf (l.take (i + 1))).filter (inC count):=by rw [hq,hsn];simp
  have hql:∀ j,(q j).length≤200000:=fun j=>by
   rw [hq]
   have h1:=List.length_filter_le (inC count) (cellsOf (l.take i) ++ x.cells.take j)
   rw [List.length_append,List.length_take] at h1
   dsimp only
   omega
  rw [← hq0]
  refine W_loopF mixm (α:=Nat) [5,19] (fun j=>j≤x.cells.length) (fun j=>[(5,.asl 1 (q j).length),(19,vI j)]) (fun j=>[(1,.arr 1 ((q j).map vI) false)]) (fun j=>x.cells.length - j) 0 (by omega) ?_ fun j hj=>?_
  ·refine .of [(1,some 1)] [] rfl (by first | rfl | (rw [hst];rfl)) ?_ ?_
   all_goals (try exact clA)
  have hqj:=hql j
  have hqj2:=hql (j + 1)
  simp only [tl,tl2,tl4,↓un_u,isCallR,entX,argFr,ret,retI,retB,intT,unT,endR,ressR,resR,tupT,bslR,boxR,lenAll,↓reduceIte,Nat.reduceEqDiff,Nat.reduceAdd,Nat.reduceMul,Nat.reduceLT,Nat.reduceLeDiff,reduceCtorEq,Int.reduceLE,Int.reduceLT,ne_eq,Int.reduceEq,not_false_eq_true,decide_true,decide_false,Int.reduceToNat,tl3,Int.reduceBNe,Int.reduceBEq,rmK,rm1,not_true_eq_false,decide_eq_true_eq,decide_eq_false_iff_not]
  refine ⟨fun h=>?_,fun h=>?_⟩
  ·have hsn2:q (j + 1) = q j ++ (if inC count (x.cells[j]'(by omega)) = true then [x.cells[j]'(by omega)] else []):=by
    rw [hq]
    simp only [take_snoc (show j < x.cells.length by omega),← List.append_assoc,List.filter_append]
    cases h:inC count (x.cells[j]'(by omega)) <;> simp [h]
   have hj2:j < x.cells.length:=by omega
   have hwj:=i64_succ (i:=j) (by omega)
   simp only [tl,tl2,tl4,↓un_u,isCallR,entX,argFr,ret,retI,retB,intT,unT,endR,ressR,resR,tupT,bslR,boxR,lenAll,↓reduceIte,Nat.reduceEqDiff,Nat.reduceAdd,Nat.reduceMul,Nat.reduceLT,Nat.reduceLeDiff,reduceCtorEq,Int.reduceLE,Int.reduceLT,ne_eq,Int.reduceEq,not_false_eq_true,decide_true,decide_false,Int.reduceToNat,tl3,Int.reduceBNe,Int.reduceBEq,rmK,rm1,not_true_eq_false,Int.toNat_natCast,getD_mapT hj2,hwj,decide_eq_true_eq,decide_eq_false_iff_not,Bool.or_eq_true,Bool.or_eq_false_iff,Bool.and_eq_true,Bool.and_eq_false_iff]
   refine ⟨by omega,fun h4=>?_,fun h4=>?_⟩
   ·rw [if_pos (by simp only [inC,Bool.and_eq_true,decide_eq_true_eq];omega)] at hsn2
    refine ⟨by omega,j + 1,by omega,by omega,?_⟩
    rw [hsn2]
    refine .of [(1,some 1)] [] rfl (by first | rfl | (rw [hst];rfl)) ?_ ?_
    all_goals (try simp only [ltSto,ltO2,ltO1,ltAs,ltA,ltC,ltC0,ltC0s,ltCs,ltT,ltFr,ltS,wrOk,wrO,TL.get,hasFr,↓reduceIte,Nat.reduceEqDiff,reduceCtorEq,Option.getD_some,Option.isSome_some,List.length_map,List.length_append,List.length_cons,List.length_nil,List.append_nil,List.mem_singleton,List.mem_cons,List.not_mem_nil,and_true,true_and,and_self,imp_self,forall_const,false_implies,implies_true,true_implies,or_false,Bool.false_eq_true,Bool.true_eq_false,ImXs_nil,true_or,or_true,false_or,false_and,and_false,rmK,rm1,List.map_append,List.map_cons,List.map_nil,List.cons_append,List.nil_append,List.length_append,List.length_cons,List.length_nil])
    all_goals (try (repeat' (first | exact ltXs_nil | (apply ltXs_map;intro _;exact ⟨rfl,rfl⟩) | (apply imXs_map;intro _;exact ⟨rfl,rfl⟩) | with_reducible apply imXs_append | with_reducible refine imXs_cons ⟨rfl,rfl⟩ ?_ | exact imXs_nil | with_reducible apply ltXs_append | with_reducible refine ltXs_cons ⟨rfl,rfl,?_⟩ ?_ | with_reducible apply And.intro | exact ltCs_im rfl | exact ltCs_im (by assumption) | (refine ⟨⟨?_,rfl,?_,rfl,?_⟩,trivial⟩ <;> first | (simp;done) | (apply imXs_map;intro _;exact ⟨rfl,rfl⟩)) | trivial | rfl | (rw [i64_succ (by omega)]) | omega)))
   ·rw [if_neg (by simp only [inC,Bool.and_eq_true,decide_eq_true_eq];omega),List.append_nil] at hsn2
    refine ⟨j + 1,by omega,by omega,?_⟩
    rw [hsn2]
    refine .of [(1,some 1)] [] rfl (by first | rfl | (rw [hst];rfl)) ?_ ?_
    all_goals (try exact clA)
  ·have hj2:j = x.cells.length:=by omega
   subst hj2
   rw [hqe]
   refine ⟨i + 1,by omega,by omega,?_⟩
   refine .of [(1,some 1)] [] rfl (by first | rfl | (rw [hst];rfl)) ?_ ?_
   all_goals (try exact clA)
 ·have hi2:i = l.length:=by omega
  subst hi2
  rw [List.take_length]
  have hli:=hlen l.length
  rw [List.take_length] at hli
  have hfl:=List.length_filter_le (inC count) (cellsOf l)
  obtain ⟨ys,⟨hp,hso⟩,hsc⟩:=c_slices_Sort_int ((cellsOf l).filter (inC count)) (by omega)
  have hpl:=hp.length_eq
  rw [← hpl] at hso
  have hns:=cpt_ins ltI_ord ltI_tot ltI_trans eqI2_iff hp hso
  have hcm:=c_slices_Compact_int ys (by omega)
  refine C1.upd 1 1 _ _ hsc (by rfl) (by apply imXs_map;intro _;exact ⟨rfl,rfl⟩) (by apply imXs_map;intro _;exact ⟨rfl,rfl⟩) ⟨by simp [ltA,ltC,ltC0,TL.get],trivial⟩ (by rfl) ?_
  refine sW ?_
  rw [← hpl]
  refine C1.cutback 1 57348 1 [] hcm (by rfl) (by apply imXs_map;intro _;exact ⟨rfl,rfl⟩) (by apply imXs_map;intro _;exact ⟨rfl,rfl⟩) (by apply noA_map;intro _;rfl) (by rfl) ?_ (by rfl) ?_
  ·all_goals (try exact clA)
  refine sW ?_
  rw [hns]
  refine .of [] [57348] rfl (by first | rfl | (rw [hst];rfl)) ?_ ?_
  all_goals (try exact clA)
end Go.Proofs
