import Derived.Test.YtgdfndldfmjfhaaDoorS329
set_option linter.unusedSimpArgs false
set_option linter.unusedVariables false
namespace Go.Proofs
open Go Go.TL
open Go.TL.So
set_option maxHeartbeats 2000000
theorem gd_drop_int {A l:List Int} {m j:Nat} (h:A.drop m = l.drop m) (hj:m≤j):gd A j = gd l j:=by
 have h1:(A.drop m).getD (j - m) default = (l.drop m).getD (j - m) default:=by rw [h]
 simp only [List.getD_eq_getElem?_getD,List.getElem?_drop] at h1
 rw [show m + (j - m) = j by omega] at h1
 simpa [gd,List.getD_eq_getElem?_getD] using h1
theorem c_slices_Compact_int (l:List Int) (hl:l.length < 2305843009213693952) :
 Spc Tryd.prog F_slices_Compact_int [.vw 0 l.length 0 l.length] [(0,.arr 1 (l.map vI) false)] (.asl 1 (cptN eqI2 l l.length).length) [(0,.dead),(1,.arr 1 ((cptN eqI2 l l.length).map vI) false)]:=by
 refine spec_of_ir fn_slices_Compact_int mixm (by simp) fun e _ hst=>W_start ?_
 unfold ir_slices_Compact_int
 refine sW ?_
 have hfull:∀ j,j≤l.length→(∀ i,0 < i→i < j→eqI2 (gd l i) (gd l (i - 1)) = false)→cptN eqI2 l j = l.take j:=by
  intro j
  induction j with
  | zero=>intro _ _;rfl
  | succ j ih=>
    intro h1 h2
    rw [cptN,ih (by omega) (fun i h3 h4=>h2 i h3 (by omega)),take_snoc (by omega),if_neg ?_,gd_get (by omega)]
    intro e
    rw [h2 j e.1 (by omega)] at e
    exact absurd e.2 (by simp)
 have hdone:∀ e:Env,True:=fun _=>trivial
 simp only [tl,tl2,tl4,↓un_u,isCallR,entX,argFr,ret,retI,retB,intT,unT,endR,ressR,resR,tupT,bslR,boxR,lenAll,↓reduceIte,Nat.reduceEqDiff,Nat.reduceAdd,Nat.reduceMul,Nat.reduceLT,Nat.reduceLeDiff,reduceCtorEq,Int.reduceLE,Int.reduceLT,ne_eq,Int.reduceEq,not_false_eq_true,decide_true,decide_false,Int.reduceToNat,tl3,Int.reduceBNe,Int.reduceBEq,rmK,rm1,not_true_eq_false,decide_eq_true_eq,decide_eq_false_iff_not]
 refine ⟨fun h=>?_,fun h=>?_⟩
 ·have hc:cptN eqI2 l l.length = l:=by rw [hfull l.length (Nat.le_refl _) (fun i h1 h2=>by omega),List.take_length]
  rw [hc]
  refine .cutv 1 rfl (by simp) rfl (by simp) ?_
  simp only [cutSt,List.length_map,List.take_of_length_le (show (l.map vI).length≤l.length by simp)]
  refine .of [(0,some 0),(1,some 1)] [] rfl (by first | rfl | (rw [hst];rfl)) ?_ ?_
  all_goals (try exact clA)
 refine W_loopF mixm (α:=Nat) [3] (fun k=>1≤k∧k≤l.length∧∀ i,0 < i→i < k→eqI2 (gd l i) (gd l (i - 1)) = false) (fun k=>[(3,vI k)]) (fun k=>[(0,.arr 1 (l.map vI) false)]) (fun k=>l.length - k) 1 ⟨Nat.le_refl _,by omega,fun i h1 h2=>by omega⟩ ?_ fun k hk=>?_
 ·refine .of [(0,some 0)] [] rfl (by first | rfl | (rw [hst];rfl)) ?_ ?_
  all_goals (try exact clA)
 obtain ⟨k1,k2,k3⟩:=hk
 simp only [tl,tl2,tl4,↓un_u,isCallR,entX,argFr,ret,retI,retB,intT,unT,endR,ressR,resR,tupT,bslR,boxR,lenAll,↓reduceIte,Nat.reduceEqDiff,Nat.reduceAdd,Nat.reduceMul,Nat.reduceLT,Nat.reduceLeDiff,reduceCtorEq,Int.reduceLE,Int.reduceLT,ne_eq,Int.reduceEq,not_false_eq_true,decide_true,decide_false,Int.reduceToNat,tl3,Int.reduceBNe,Int.reduceBEq,rmK,rm1,not_true_eq_false,decide_eq_true_eq,decide_eq_false_iff_not]
 refine ⟨fun h4=>?_,fun h4=>?_⟩
 ·have hkl:k < l.length:=by omega
  have hwp:IntKind.i64.wrap ((k:Int) - 1) = ((k - 1:Nat):Int):=by rw [IntWalk.i64_in _ (by omega)];omega
  have hws:=i64_succ (i:=k) (by omega)
  simp only [tl,tl2,tl4,↓un_u,isCallR,entX,argFr,ret,retI,retB,intT,unT,endR,ressR,resR,tupT,bslR,boxR,lenAll,↓reduceIte,Nat.reduceEqDiff,Nat.reduceAdd,Nat.reduceMul,Nat.reduceLT,Nat.reduceLeDiff,reduceCtorEq,Int.reduceLE,Int.reduceLT,ne_eq,Int.reduceEq,not_false_eq_true,decide_true,decide_false,Int.reduceToNat,tl3,Int.reduceBNe,Int.reduceBEq,rmK,rm1,not_true_eq_false,hwp,Int.toNat_natCast,Nat.zero_add,Nat.add_zero,gdT_int hkl,gdT_int (show k - 1 < l.length by omega),cellT_int]
  refine ⟨by omega,by omega,by omega,by omega,by kernel_rfl,fun h5=>?_,fun h5=>?_⟩
  ·have hFk:cptN eqI2 l (k + 1) = l.take k:=by
    rw [cptN,if_pos ⟨by omega,h5⟩,List.append_nil,hfull k k2 k3]
   have hF0:(cptN eqI2 l (k + 1)).length = k:=by rw [hFk,List.length_take];omega
   refine ⟨by omega,?_⟩
   refine W_loopF mixm (α:=List Int×Nat) [3,5] (fun q=>q.1.length = l.length∧1≤q.2∧k + q.2≤l.length∧(cptN eqI2 l (k + q.2)).length < k + q.2∧q.1.take (cptN eqI2 l (k + q.2)).length = cptN eqI2 l (k + q.2)∧q.1.drop (k + q.2 - 1) = l.drop (k + q.2 - 1)) (fun q=>[(3,vI (cptN eqI2 l (k + q.2)).length),(5,vI q.2)]) (fun q=>[(0,.arr 1 (q.1.map vI) false)]) (fun q=>l.length - q.2) (l,1) ⟨rfl,Nat.le_refl _,by dsimp only;omega,by dsimp only;omega,by dsimp only;rw [hF0,hFk],rfl⟩ ?_ fun q hq=>?_
   ·rw [show (l,1).2 = 1 from rfl,hF0]
    refine .of [(0,some 0)] [] rfl (by first | rfl | (rw [hst];rfl)) ?_ ?_
    all_goals (try exact clA)
   obtain ⟨A,q⟩:=q
   obtain ⟨g1,g2,g3,g4,g5,g6⟩:=hq
   dsimp only at g1 g2 g3 g4 g5 g6
   dsimp only
   simp only [tl,tl2,tl4,↓un_u,isCallR,entX,argFr,ret,retI,retB,intT,unT,endR,ressR,resR,tupT,bslR,boxR,lenAll,↓reduceIte,Nat.reduceEqDiff,Nat.reduceAdd,Nat.reduceMul,Nat.reduceLT,Nat.reduceLeDiff,reduceCtorEq,Int.reduceLE,Int.reduceLT,ne_eq,Int.reduceEq,not_false_eq_true,decide_true,decide_false,Int.reduceToNat,tl3,Int.reduceBNe,Int.reduceBEq,rmK,rm1,not_true_eq_false,decide_eq_true_eq,decide_eq_false_iff_not]
   refine ⟨g1,fun h6=>?_,fun h6=>?_⟩
   ·have hkq:k + q < l.length:=by omega
    have hwq:IntKind.i64.wrap ((q:Int) - 1) = ((q - 1:Nat):Int):=by rw [IntWalk.i64_in _ (by omega)];omega
    have hwq1:=i64_succ (i:=q) (by omega)
    have hwF:=i64_succ (i:=(cptN eqI2 l (k + q)).length) (by omega)
    have ha1:gd A (k + q) = gd l (k + q):=gd_drop_int g6 (by omega)
    have ha2:gd A (k + (q - 1)) = gd l (k + q - 1):=by rw [show k + (q - 1) = k + q - 1 by omega];exact gd_drop_int g6 (Nat.le_refl _)
    have hlF:=cptN_le eqI2 l (k + q)
    have hFs:cptN eqI2 l (k + (q + 1)) = cptN eqI2 l (k + q) ++ (if eqI2 (gd l (k + q)) (gd l (k + q - 1)) = true then [] else [gd l (k + q)]):=by
     rw [show k + (q + 1) = (k + q) + 1 by omega,cptN]
     by_cases e:eqI2 (gd l (k + q)) (gd l (k + q - 1)) = true
     ·rw [if_pos ⟨by omega,e⟩,if_pos e]
     ·rw [if_neg (fun h=>e h.2),if_neg e]
    simp only [tl,tl2,tl4,↓un_u,isCallR,entX,argFr,ret,retI,retB,intT,unT,endR,ressR,resR,tupT,bslR,boxR,lenAll,↓reduceIte,Nat.reduceEqDiff,Nat.reduceAdd,Nat.reduceMul,Nat.reduceLT,Nat.reduceLeDiff,reduceCtorEq,Int.reduceLE,Int.reduceLT,ne_eq,Int.reduceEq,not_false_eq_true,decide_true,decide_false,Int.reduceToNat,tl3,Int.reduceBNe,Int.reduceBEq,rmK,rm1,not_true_eq_false,hwq,Int.toNat_natCast,List.length_map,gdT_int (show k + q < A.length by omega),gdT_int (show k + (q - 1) < A.length by omega),cellT_int,ha1,ha2]
    refine ⟨by omega,by omega,by omega,by omega,by kernel_rfl,fun h7=>?_,fun h7=>?_⟩
    ·have hne:¬ eqI2 (gd l (k + q)) (gd l (k + q - 1)) = true:=by
      intro e
      have e2:((gd l (k + q)) == (gd l (k + q - 1))) = true:=e
      first | (rw [e2] at h7;cases h7) | (rw [bne,e2] at h7;cases h7)
     rw [if_neg hne] at hFs
     simp only [tl,tl2,tl4,↓un_u,isCallR,entX,argFr,ret,retI,retB,intT,unT,endR,ressR,resR,tupT,bslR,boxR,lenAll,↓reduceIte,Nat.reduceEqDiff,Nat.reduceAdd,Nat.reduceMul,Nat.reduceLT,Nat.reduceLeDiff,reduceCtorEq,Int.reduceLE,Int.reduceLT,ne_eq,Int.reduceEq,not_false_eq_true,decide_true,decide_false,Int.reduceToNat,tl3,Int.reduceBNe,Int.reduceBEq,rmK,rm1,not_true_eq_false,Int.toNat_natCast,List.length_map,gdT_int (show (cptN eqI2 l (k + q)).length < A.length by omega),replT_int,setT_int,ha1,hwF]
     refine ⟨by omega,by omega,by omega,by omega,(A.set (cptN eqI2 l (k + q)).length (gd l (k + q)),q + 1),⟨?_,by dsimp only;omega,by dsimp only;omega,?_,?_,?_⟩,by dsimp only;omega,?_⟩
     ·dsimp only;rw [List.length_set];exact g1
     ·dsimp only;rw [hFs,List.length_append];simp;omega
     ·dsimp only
      rw [hFs,List.length_append,List.length_cons,List.length_nil,Nat.zero_add,take_snoc (by rw [List.length_set];omega),List.take_set_of_le (Nat.le_refl _),g5,List.getElem_set_self]
     ·dsimp only
      rw [show k + (q + 1) - 1 = (k + q - 1) + 1 by omega,List.drop_set_of_lt (by omega),← List.drop_drop,← List.drop_drop,g6]
     ·dsimp only
      rw [hwq1,hFs,List.length_append,List.length_cons,List.length_nil,Nat.zero_add]
      refine .of [(0,some 0)] [] rfl (by first | rfl | (rw [hst];rfl)) ?_ ?_
      all_goals (try exact clA)
    ·have heq:eqI2 (gd l (k + q)) (gd l (k + q - 1)) = true:=by
      show ((gd l (k + q)) == (gd l (k + q - 1))) = true
      simpa using h7
     rw [if_pos heq,List.append_nil] at hFs
     refine ⟨(A,q + 1),⟨g1,by dsimp only;omega,by dsimp only;omega,by dsimp only;rw [hFs];omega,by dsimp only;rw [hFs];exact g5,?_⟩,by dsimp only;omega,?_⟩
     ·dsimp only
      rw [show k + (q + 1) - 1 = (k + q - 1) + 1 by omega,← List.drop_drop,← List.drop_drop,g6]
     ·dsimp only
      rw [hwq1,hFs]
      refine .of [(0,some 0)] [] rfl (by first | rfl | (rw [hst];rfl)) ?_ ?_
      all_goals (try exact clA)
   ·have hkq:k + q = l.length:=by omega
    rw [hkq] at g4 g5
    rw [hkq]
    generalize cptN eqI2 l l.length = F at *
    simp only [tl,tl2,tl4,↓un_u,isCallR,entX,argFr,ret,retI,retB,intT,unT,endR,ressR,resR,tupT,bslR,boxR,lenAll,↓reduceIte,Nat.reduceEqDiff,Nat.reduceAdd,Nat.reduceMul,Nat.reduceLT,Nat.reduceLeDiff,reduceCtorEq,Int.reduceLE,Int.reduceLT,ne_eq,Int.reduceEq,not_false_eq_true,decide_true,decide_false,Int.reduceToNat,tl3,Int.reduceBNe,Int.reduceBEq,rmK,rm1,not_true_eq_false,List.length_map,Int.toNat_natCast,g1,List.length_take,List.length_drop,List.length_replicate]
    refine ⟨by omega,by omega,by omega,?_⟩
    refine .cutv 1 rfl (by simp;omega) rfl (by simp;omega) ?_
    have hcut:(((A.map vI).take F.length ++ List.replicate (l.length - F.length) (T.v (Value.int .i64 0)) ++ (A.map vI).drop (F.length + (l.length - F.length))).take F.length) = F.map vI:=by
     rw [List.append_assoc,List.take_append_of_le_length (by rw [List.length_take,List.length_map];omega),List.take_take,Nat.min_self,← List.map_take,g5]
    simp only [Nat.sub_zero,Nat.zero_add,cutSt,List.append_assoc] at hcut ⊢
    rw [hcut]
    refine .of [(0,some 0),(1,some 1)] [] rfl (by first | rfl | (rw [hst];rfl)) ?_ ?_
    all_goals (try exact clA)
  ·refine ⟨k + 1,⟨by omega,by omega,fun i h6 h7=>?_⟩,by omega,?_⟩
   ·by_cases e:i = k
    ·subst e;exact h5
    ·exact k3 i h6 (by omega)
   ·rw [hws]
    refine .of [(0,some 0)] [] rfl (by first | rfl | (rw [hst];rfl)) ?_ ?_
    all_goals (try exact clA)
 ·obtain rfl:k = l.length:=by omega
  have hc:cptN eqI2 l l.length = l:=by rw [hfull l.length (Nat.le_refl _) k3,List.take_length]
  rw [hc]
  refine .cutv 1 rfl (by simp) rfl (by simp) ?_
  simp only [cutSt,List.length_map,List.take_of_length_le (show (l.map vI).length≤l.length by simp)]
  refine .of [(0,some 0),(1,some 1)] [] rfl (by first | rfl | (rw [hst];rfl)) ?_ ?_
  all_goals (try exact clA)
end Go.Proofs
