import Derived.Test.YtgdfndldfmjfhaaDoorW29
import Derived.Test.YtgdfndldfmjfhaaDoorU29
set_option linter.unusedSimpArgs false
set_option linter.unusedVariables false
namespace Go.Proofs
open Go Go.TL
open Go.TL.So
set_option maxRecDepth 4000
def tcU (count:Int) (acc:List Int) (c:Int):List Int:=if inC count c = true then insU ltI eqI2 acc c else acc
theorem tchA_fold (count:Int) (l:List Eqn):tchA count l = (cellsOf l).foldl (tcU count) []:=by
 have key:∀ (ks:List Int) (a:List Int),(ks.filter (inC count)).foldl (insU ltI eqI2) a = ks.foldl (tcU count) a:=by
  intro ks
  induction ks with
  | nil=>intro a;rfl
  | cons k ks ih=>
    intro a
    rw [List.filter_cons]
    cases h:inC count k with
    | true=>simp only [if_true,List.foldl_cons,ih,tcU,h]
    | false=>simp only [Bool.false_eq_true,if_false,List.foldl_cons,ih,tcU,h]
 exact key _ _
theorem tcU_ok (count:Int) (ks:List Int):(ks.foldl (tcU count) []).Pairwise (fun x y=>ltI x y = true)∧(ks.foldl (tcU count) []).length≤ks.length:=by
 have key:∀ (ks:List Int) (a:List Int),a.Pairwise (fun x y=>ltI x y = true)→(ks.foldl (tcU count) a).Pairwise (fun x y=>ltI x y = true)∧(ks.foldl (tcU count) a).length≤a.length + ks.length:=by
  intro ks
  induction ks with
  | nil=>intro a h;exact ⟨h,by simp⟩
  | cons k ks ih=>
    intro a h
    have h1:(tcU count a k).Pairwise (fun x y=>ltI x y = true):=by
     unfold tcU
     split
     ·exact insU_srt ltI_ord ltI_tot ltI_trans eqI2_iff h
     ·exact h
    have h2:(tcU count a k).length≤a.length + 1:=by
     unfold tcU
     split
     ·exact insU_len
     ·omega
    obtain ⟨h3,h4⟩:=ih _ h1
    refine ⟨h3,?_⟩
    rw [List.foldl_cons,List.length_cons]
    omega
 have:=key ks [] .nil
 simpa using this
theorem c_ref29_Touched (count:Int) (l:List Eqn) (hl:l.length≤100000) (hc:(cellsOf l).length < 60000):Spc Tryd.prog F_ref29_Touched [vI count,vQs l] [] (vIs (tchA count l)) []:=by
 rw [tchA_fold]
 have hlen:∀ i,(cellsOf (l.take i)).length < 60000:=fun i=>Nat.lt_of_le_of_lt (cellsOf_take l i) hc
 refine spec_of_ir fn_ref29_Touched mixm (by simp) fun e _ hst=>W_start ?_
 unfold ir_ref29_Touched
 refine sW ?_
 refine W_loopF mixm (α:=Nat) [5,13] (fun i=>i≤l.length) (fun i=>[(5,vIs ((cellsOf (l.take i)).foldl (tcU count) [])),(13,vI i)]) (fun i=>[]) (fun i=>l.length - i) 0 (by omega) ?_ fun i hi=>?_
 ·simp only [List.take_zero,cellsOf,List.flatMap_nil,List.foldl_nil,List.length_nil,List.map_nil]
  refine .of [] [] rfl (by first | rfl | (rw [hst];rfl)) ?_ ?_
  all_goals (try exact clA)
 have hli:=hlen i
 simp only [tl,tl2,tl4,↓un_u,isCallR,entX,argFr,ret,retI,retB,intT,unT,endR,ressR,resR,tupT,bslR,boxR,lenAll,↓reduceIte,Nat.reduceEqDiff,Nat.reduceAdd,Nat.reduceMul,Nat.reduceLT,Nat.reduceLeDiff,reduceCtorEq,Int.reduceLE,Int.reduceLT,ne_eq,Int.reduceEq,not_false_eq_true,decide_true,decide_false,Int.reduceToNat,tl3,Int.reduceBNe,Int.reduceBEq,rmK,rm1,not_true_eq_false,decide_eq_true_eq,decide_eq_false_iff_not]
 refine ⟨fun h=>?_,fun h=>?_⟩
 ·have hsn:=cellsOf_snoc (show i < l.length by omega)
  have hxi:=cellsOf_at (show i < l.length by omega)
  have hwi:=i64_succ (i:=i) (by omega)
  have hli2:=hlen (i + 1)
  have hi2:i < l.length:=by omega
  have hwi:=i64_succ (i:=i) (by omega)
  simp only [tl,tl2,tl4,↓un_u,isCallR,entX,argFr,ret,retI,retB,intT,unT,endR,ressR,resR,tupT,bslR,boxR,lenAll,↓reduceIte,Nat.reduceEqDiff,Nat.reduceAdd,Nat.reduceMul,Nat.reduceLT,Nat.reduceLeDiff,reduceCtorEq,Int.reduceLE,Int.reduceLT,ne_eq,Int.reduceEq,not_false_eq_true,decide_true,decide_false,Int.reduceToNat,tl3,Int.reduceBNe,Int.reduceBEq,rmK,rm1,not_true_eq_false,Int.toNat_natCast,getD_mapT hi2,hwi]
  refine ⟨by omega,?_⟩
  generalize l[i] = x at *
  obtain ⟨q,hq⟩:∃ q:Nat→List Int,q = fun j=>(cellsOf (l.take i) ++ x.cells.take j).foldl (tcU count) []:=⟨_,rfl⟩
  have hq0:q 0 = (cellsOf (l.take i)).foldl (tcU count) []:=by rw [hq];simp
  have hqe:q x.cells.length = (cellsOf (l.take (i + 1))).foldl (tcU count) []:=by rw [hq,hsn];simp
  have hqs:∀ j,(q j).Pairwise (fun x y=>ltI x y = true):=fun j=>by rw [hq];exact (tcU_ok count _).1
  have hql:∀ j,(q j).length≤120000:=fun j=>by
   rw [hq]
   have h1:=(tcU_ok count (cellsOf (l.take i) ++ x.cells.take j)).2
   rw [List.length_append,List.length_take] at h1
   dsimp only
   omega
  rw [← hq0]
  refine W_loopF mixm (α:=Nat) [5,20] (fun j=>j≤x.cells.length) (fun j=>[(5,vIs (q j)),(20,vI j)]) (fun j=>[]) (fun j=>x.cells.length - j) 0 (by omega) ?_ fun j hj=>?_
  ·refine .of [] [] rfl (by first | rfl | (rw [hst];rfl)) ?_ ?_
   all_goals (try exact clA)
  have hqj:=hql j
  have hqs:=hqs j
  refine sD ?_
  refine ⟨fun h3=>?_,fun h3=>?_⟩
  ·have hsn2:q (j + 1) = tcU count (q j) (x.cells[j]'(by omega)):=by
    rw [hq]
    simp only [take_snoc (show j < x.cells.length by omega),← List.append_assoc,List.foldl_append,List.foldl_cons,List.foldl_nil]
   have hj2:j < x.cells.length:=by omega
   have hwj:=i64_succ (i:=j) (by omega)
   simp only [tl,tl2,tl4,↓un_u,isCallR,entX,argFr,ret,retI,retB,intT,unT,endR,ressR,resR,tupT,bslR,boxR,lenAll,↓reduceIte,Nat.reduceEqDiff,Nat.reduceAdd,Nat.reduceMul,Nat.reduceLT,Nat.reduceLeDiff,reduceCtorEq,Int.reduceLE,Int.reduceLT,ne_eq,Int.reduceEq,not_false_eq_true,decide_true,decide_false,Int.reduceToNat,tl3,Int.reduceBNe,Int.reduceBEq,rmK,rm1,not_true_eq_false,Int.toNat_natCast,getD_mapT hj2,hwj,decide_eq_true_eq,decide_eq_false_iff_not,Bool.or_eq_true,Bool.or_eq_false_iff,Bool.and_eq_true,Bool.and_eq_false_iff]
   refine ⟨by omega,?_⟩
   generalize x.cells[j] = c at *
   generalize q j = acc at *
   have hat:=at_iff ltI_ord ltI_tot eqI2_iff (v:=c) hqs
   have hend:∀ k:Nat,k≤acc.length→(acc.take k).any (fun y=>!ltI y c) = false→(∀ h:k < acc.length,ltI acc[k] c = false)→(acc.findIdx fun y=>!ltI y c) = k:=by
    intro k h1 h2 h3
    by_cases hil:k < acc.length
    ·exact findIdx_at hil h2 (by rw [h3 hil];rfl)
    ·have:k = acc.length:=by omega
     subst this
     rw [List.take_length] at h2
     rw [List.findIdx_eq_length]
     intro y hy
     have:=List.any_eq_false.1 h2 y hy
     simpa using this
   have hno:∀ k:Nat,(acc.findIdx fun y=>!ltI y c) = k→(inC count c = false∨∃ h:k < acc.length,acc[k] = c)→q (j + 1) = acc:=by
    intro k h1 h2
    rw [hsn2,tcU]
    rcases h2 with h2 | ⟨h2,h3⟩
    ·rw [h2];rfl
    ·split
     ·rw [insU,if_pos (hat.1 (by rw [h1];exact ⟨h2,by rw [gd_get h2];exact (eqI2_iff _ _).2 h3⟩))]
     ·rfl
   have hyes:∀ k:Nat,(acc.findIdx fun y=>!ltI y c) = k→inC count c = true→(∀ h:k < acc.length,acc[k]≠c)→q (j + 1) = acc.take k ++ c :: acc.drop k:=by
    intro k h1 h2 h3
    rw [hsn2,tcU,if_pos h2,insU,if_neg,insB,h1]
    intro e
    obtain ⟨a,b⟩:=hat.2 e
    rw [h1] at a b
    rw [gd_get a] at b
    exact h3 a ((eqI2_iff _ _).1 b)
   have hfin:∀ k:Nat,((acc.take k).map vI ++ [vI c] ++ (acc.drop k).map vI) = (acc.take k ++ c :: acc.drop k).map vI:=by
    intro k;simp
   refine W_loopF mixm (α:=Nat) [10] (fun k=>k≤acc.length∧(acc.take k).any (fun y=>!ltI y c) = false) (fun k=>[(10,vI k)]) (fun k=>[]) (fun k=>acc.length - k) 0 ⟨by omega,rfl⟩ ?_ fun k hk=>?_
   ·refine .of [] [] rfl (by first | rfl | (rw [hst];rfl)) ?_ ?_
    all_goals (try exact clA)
   obtain ⟨hk1,hk2⟩:=hk
   by_cases hkl:k < acc.length
   ·have hg:decide ((k:Int) < (acc.length:Int)) = true:=by simp;omega
    have hg2:((k:Int) == (acc.length:Int)) = false:=by simp;omega
    have hwk:=i64_succ (i:=k) (by omega)
    have hwj:=i64_succ (i:=j) (by omega)
    simp only [tl,tl2,tl4,↓un_u,isCallR,entX,argFr,ret,retI,retB,intT,unT,endR,ressR,resR,tupT,bslR,boxR,lenAll,↓reduceIte,Nat.reduceEqDiff,Nat.reduceAdd,Nat.reduceMul,Nat.reduceLT,Nat.reduceLeDiff,reduceCtorEq,Int.reduceLE,Int.reduceLT,ne_eq,Int.reduceEq,not_false_eq_true,decide_true,decide_false,Int.reduceToNat,tl3,Int.reduceBNe,Int.reduceBEq,rmK,rm1,not_true_eq_false,hg,hg2,Int.toNat_natCast,getD_mapT hkl,hwk,hwj]
    refine ⟨by omega,fun h6=>?_,fun h6=>?_⟩
    ·refine ⟨k + 1,⟨by omega,any_snoc hkl hk2 (by have h6:ltI acc[k] c = true:=h6;rw [h6];rfl)⟩,by omega,?_⟩
     refine .of [] [] rfl (by first | rfl | (rw [hst];rfl)) ?_ ?_
     all_goals (try exact clA)
    have hpe:=hend k hk1 hk2 fun _=>h6
    refine ⟨fun _=>by omega,fun h7=>?_,fun h7=>?_⟩
    ·simp only [Bool.and_eq_true,bne_iff_ne] at h7
     have hf:=hfin k
     have hq1:=hyes k hpe (by unfold inC;rw [Bool.and_eq_true];exact h7.1) fun _=>h7.2
     simp only [cut_map,cut_to,cut_from]
     have h1:(List.map vI (List.take k acc)).length = k:=by rw [List.length_map,List.length_take];omega
     have h2:(List.map vI (List.drop k acc)).length = acc.length - k:=by rw [List.length_map,List.length_drop]
     simp only [h1,h2,hf]
     refine ⟨by omega,by omega,by omega,by omega,by omega,by kernel_rfl,j + 1,by omega,by omega,?_⟩
     have h7:(acc.take k ++ c :: acc.drop k).length = k + 1 + (acc.length - k):=by
      rw [List.length_append,List.length_cons,List.length_take,List.length_drop];omega
     rw [hq1,← h7]
     generalize (acc.take k ++ c :: acc.drop k) = acc2 at *
     refine .of [] [53248] rfl (by first | rfl | (rw [hst];rfl)) ?_ ?_
     all_goals (try exact clA)
    ·have hq1:=hno k hpe (by
      simp only [Bool.and_eq_false_iff,bne_eq_false_iff_eq] at h7
      rcases h7 with h7 | h7
      ·left;unfold inC;rw [Bool.and_eq_false_iff];exact h7
      ·right;exact ⟨hkl,h7⟩)
     refine ⟨j + 1,by omega,by omega,?_⟩
     rw [hq1]
     refine .of [] [] rfl (by first | rfl | (rw [hst];rfl)) ?_ ?_
     all_goals (try exact clA)
   ·have hg:decide ((k:Int) < (acc.length:Int)) = false:=by simp;omega
    have hg2:((k:Int) == (acc.length:Int)) = true:=by simp;omega
    have hpe:=hend k hk1 hk2 fun h=>absurd h hkl
    have hwj:=i64_succ (i:=j) (by omega)
    have hjn:(acc.map vI).getD k .junk = .junk:=by rw [List.getD_eq_getElem?_getD,List.getElem?_eq_none (by rw [List.length_map];omega)];rfl
    simp only [tl,tl2,tl4,↓un_u,isCallR,entX,argFr,ret,retI,retB,intT,unT,endR,ressR,resR,tupT,bslR,boxR,lenAll,↓reduceIte,Nat.reduceEqDiff,Nat.reduceAdd,Nat.reduceMul,Nat.reduceLT,Nat.reduceLeDiff,reduceCtorEq,Int.reduceLE,Int.reduceLT,ne_eq,Int.reduceEq,not_false_eq_true,decide_true,decide_false,Int.reduceToNat,tl3,Int.reduceBNe,Int.reduceBEq,rmK,rm1,not_true_eq_false,hg,hg2,Int.toNat_natCast,hjn,hwj,cut_map,cut_to,cut_from]
    refine ⟨fun h7=>?_,fun h7=>?_⟩
    ·have hf:=hfin k
     have hq1:=hyes k hpe (by unfold inC;exact h7) fun h=>absurd h hkl
     have h1:(List.map vI (List.take k acc)).length = k:=by rw [List.length_map,List.length_take];omega
     have h2:(List.map vI (List.drop k acc)).length = acc.length - k:=by rw [List.length_map,List.length_drop]
     have h1':(List.take k acc).length = k:=by rw [List.length_take];omega
     have h2':(List.drop k acc).length = acc.length - k:=by rw [List.length_drop]
     simp only [h1,h2,h1',h2',hf]
     refine ⟨by omega,by omega,by omega,by omega,by omega,by kernel_rfl,j + 1,by omega,by omega,?_⟩
     have h7:(acc.take k ++ c :: acc.drop k).length = k + 1 + (acc.length - k):=by
      rw [List.length_append,List.length_cons,List.length_take,List.length_drop];omega
     rw [hq1,← h7]
     generalize (acc.take k ++ c :: acc.drop k) = acc2 at *
     refine .of [] [53248] rfl (by first | rfl | (rw [hst];rfl)) ?_ ?_
     all_goals (try exact clA)
    ·have hq1:=hno k hpe (.inl (by unfold inC;exact h7))
     refine ⟨j + 1,by omega,by omega,?_⟩
     rw [hq1]
     refine .of [] [] rfl (by first | rfl | (rw [hst];rfl)) ?_ ?_
     all_goals (try exact clA)
  ·have hjx:j = x.cells.length:=by omega
   subst hjx
   rw [hqe]
   simp only [tl,tl2,tl4,↓un_u,isCallR,entX,argFr,ret,retI,retB,intT,unT,endR,ressR,resR,tupT,bslR,boxR,lenAll,↓reduceIte,Nat.reduceEqDiff,Nat.reduceAdd,Nat.reduceMul,Nat.reduceLT,Nat.reduceLeDiff,reduceCtorEq,Int.reduceLE,Int.reduceLT,ne_eq,Int.reduceEq,not_false_eq_true,decide_true,decide_false,Int.reduceToNat,tl3,Int.reduceBNe,Int.reduceBEq,rmK,rm1,not_true_eq_false,hwi]
   refine ⟨i + 1,by omega,by omega,?_⟩
   refine .of [] [] rfl (by first | rfl | (rw [hst];rfl)) ?_ ?_
   all_goals (try exact clA)
 ·have hil:i = l.length:=by omega
  subst hil
  rw [List.take_length]
  refine .of [] [] rfl (by first | rfl | (rw [hst];rfl)) ?_ ?_
  all_goals (try exact clA)
end Go.Proofs
