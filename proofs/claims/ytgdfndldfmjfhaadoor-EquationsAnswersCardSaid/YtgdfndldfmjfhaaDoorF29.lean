import Derived.Test.YtgdfndldfmjfhaaDoorBase
import Derived.Test.YtgdfndldfmjfhaaDoorE29
set_option linter.unusedSimpArgs false
set_option linter.unusedVariables false
namespace Go.Proofs
open Go Go.TL
abbrev spT (sz:List Int):T:=.agg [vIs sz]
abbrev vvIs (gs:List (List Int)):T:=.sl 1 (gs.map vIs)
abbrev vwT (gs:List (List Int)):T:=.agg [vvIs gs]
theorem all_snoc {p:Int→Bool} {l:List Int} {i:Nat} (h:i < l.length):(l.take (i + 1)).all p = ((l.take i).all p && p l[i]):=by
 rw [take_snoc h,List.all_append];simp
theorem all_at {p:Int→Bool} {l:List Int} {i:Nat} (h:i < l.length) (hp:p l[i] = false):l.all p = false:=by
 rw [List.all_eq_false]
 exact ⟨l[i],List.getElem_mem h,by simp [hp]⟩
theorem prod_step {l:List Int} {i:Nat} (h:i < l.length) (ha:(l.take i).all szOk = true) (hl:l.length≤4) (hk:1≤l[i]∧l[i]≤8):IntKind.i64.wrap (prodI (l.take i) * l[i]) = prodI (l.take (i + 1)):=by
 have hs:szOk l[i] = true:=by simpa [szOk] using hk
 obtain ⟨h1,h2⟩:=prod_small (l:=l.take (i + 1)) (by rw [all_snoc h,ha,hs];rfl) (by rw [List.length_take];omega)
 rw [← prod_snoc h,IntWalk.i64_in _ (by omega)]
theorem c_cells_Check (sz:List Int) (hl:sz.length < 4611686018427387904):Spc Tryd.prog F_cells_Check [spT sz] [] (vI (chkS sz)) []:=by
 refine spec_of_ir fn_cells_Check mixm (by simp) fun e _ hst=>W_start ?_
 unfold ir_cells_Check
 refine sD ?_
 refine ⟨fun h=>?_,fun h=>?_⟩
 ·have:chkS sz = 55:=by
   unfold chkS
   rw [if_pos (by omega)]
  rw [this]
  exact .imR rfl rfl
 have hlen:1≤sz.length∧sz.length≤4:=by omega
 refine W_loopF mixm (α:=Nat) [3,19] (fun i=>i≤sz.length∧((sz.take i).all szOk = true)) (fun i=>[(3,vI (prodI (sz.take i))),(19,vI i)]) (fun i=>[]) (fun i=>sz.length - i) 0 ⟨by omega,?_⟩ ?_ fun i hi=>?_
 ·rfl
 ·refine .of [] [] rfl (by first | rfl | (rw [hst];rfl)) ?_ ?_
  all_goals (try exact clA)
 simp only [tl,tl2,tl4,↓un_u,isCallR,entX,argFr,ret,retI,retB,intT,unT,endR,ressR,resR,tupT,bslR,boxR,lenAll,↓reduceIte,Nat.reduceEqDiff,Nat.reduceAdd,Nat.reduceMul,Nat.reduceLT,Nat.reduceLeDiff,reduceCtorEq,Int.reduceLE,Int.reduceLT,ne_eq,Int.reduceEq,not_false_eq_true,decide_true,decide_false,Int.reduceToNat,tl3,Int.reduceBNe,Int.reduceBEq,rmK,rm1,not_true_eq_false,decide_eq_true_eq,decide_eq_false_iff_not]
 refine ⟨fun h=>?_,fun h=>?_⟩
 ·have hi2:i < sz.length:=by omega
  have hwi:=i64_succ (i:=i) (by omega)
  simp only [tl,tl2,tl4,↓un_u,isCallR,entX,argFr,ret,retI,retB,intT,unT,endR,ressR,resR,tupT,bslR,boxR,lenAll,↓reduceIte,Nat.reduceEqDiff,Nat.reduceAdd,Nat.reduceMul,Nat.reduceLT,Nat.reduceLeDiff,reduceCtorEq,Int.reduceLE,Int.reduceLT,ne_eq,Int.reduceEq,not_false_eq_true,decide_true,decide_false,Int.reduceToNat,tl3,Int.reduceBNe,Int.reduceBEq,rmK,rm1,not_true_eq_false,Int.toNat_natCast,getD_mapT hi2,hwi,decide_eq_true_eq,decide_eq_false_iff_not,Bool.or_eq_true,Bool.or_eq_false_iff,Bool.and_eq_true,Bool.and_eq_false_iff]
  refine ⟨by omega,fun h3=>?_,fun h3=>?_⟩
  ·have hf:sz.all szOk = false:=all_at hi2 (by simp only [szOk,Bool.and_eq_false_iff,decide_eq_false_iff_not];omega)
   have:chkS sz = 55:=by
    unfold chkS
    rw [if_neg (by omega),if_pos hf]
   rw [this]
   exact .imR rfl rfl
  ·have hk:1≤sz[i]∧sz[i]≤8:=by omega
   rw [prod_step hi2 hi.2 hlen.2 hk]
   refine ⟨i + 1,⟨by omega,?_⟩,by omega,?_⟩
   ·rw [all_snoc hi2,hi.2]
    simp only [szOk,Bool.true_and,Bool.and_eq_true,decide_eq_true_eq]
    exact hk
   ·refine .of [] [] rfl (by first | rfl | (rw [hst];rfl)) ?_ ?_
    all_goals (try exact clA)
 ·have hi2:i = sz.length:=by omega
  subst hi2
  have ha:=hi.2
  rw [List.take_length] at ha ⊢
  refine ⟨fun h3=>?_,fun h3=>?_⟩
  ·have:chkS sz = 55:=by
    unfold chkS
    rw [if_neg (by omega),if_neg (by rw [ha];simp),if_pos (by omega)]
   rw [this]
   exact .imR rfl rfl
  ·have:chkS sz = 0:=by
    unfold chkS
    rw [if_neg (by omega),if_neg (by rw [ha];simp),if_neg (by omega)]
   rw [this]
   exact .imR rfl rfl
theorem c_ref28_Check (sz:List Int) (hl:sz.length < 4611686018427387904):Spc Tryd.prog F_ref28_Check [spT sz] [] (vI (chkS sz)) []:=by
 refine spec_of_ir fn_ref28_Check mixm (by simp) fun e _ hst=>W_start ?_
 unfold ir_ref28_Check
 refine sD ?_
 refine ⟨fun h=>?_,fun h=>?_⟩
 ·have:chkS sz = 55:=by
   unfold chkS
   rw [if_pos (by omega)]
  rw [this]
  exact .imR rfl rfl
 have hlen:1≤sz.length∧sz.length≤4:=by omega
 refine W_loopF mixm (α:=Nat) [3,19] (fun i=>i≤sz.length∧((sz.take i).all szOk = true)) (fun i=>[(3,vI (prodI (sz.take i))),(19,vI i)]) (fun i=>[]) (fun i=>sz.length - i) 0 ⟨by omega,?_⟩ ?_ fun i hi=>?_
 ·rfl
 ·refine .of [] [] rfl (by first | rfl | (rw [hst];rfl)) ?_ ?_
  all_goals (try exact clA)
 simp only [tl,tl2,tl4,↓un_u,isCallR,entX,argFr,ret,retI,retB,intT,unT,endR,ressR,resR,tupT,bslR,boxR,lenAll,↓reduceIte,Nat.reduceEqDiff,Nat.reduceAdd,Nat.reduceMul,Nat.reduceLT,Nat.reduceLeDiff,reduceCtorEq,Int.reduceLE,Int.reduceLT,ne_eq,Int.reduceEq,not_false_eq_true,decide_true,decide_false,Int.reduceToNat,tl3,Int.reduceBNe,Int.reduceBEq,rmK,rm1,not_true_eq_false,decide_eq_true_eq,decide_eq_false_iff_not]
 refine ⟨fun h=>?_,fun h=>?_⟩
 ·have hi2:i < sz.length:=by omega
  have hwi:=i64_succ (i:=i) (by omega)
  simp only [tl,tl2,tl4,↓un_u,isCallR,entX,argFr,ret,retI,retB,intT,unT,endR,ressR,resR,tupT,bslR,boxR,lenAll,↓reduceIte,Nat.reduceEqDiff,Nat.reduceAdd,Nat.reduceMul,Nat.reduceLT,Nat.reduceLeDiff,reduceCtorEq,Int.reduceLE,Int.reduceLT,ne_eq,Int.reduceEq,not_false_eq_true,decide_true,decide_false,Int.reduceToNat,tl3,Int.reduceBNe,Int.reduceBEq,rmK,rm1,not_true_eq_false,Int.toNat_natCast,getD_mapT hi2,hwi,decide_eq_true_eq,decide_eq_false_iff_not,Bool.or_eq_true,Bool.or_eq_false_iff,Bool.and_eq_true,Bool.and_eq_false_iff]
  refine ⟨by omega,fun h3=>?_,fun h3=>?_⟩
  ·have hf:sz.all szOk = false:=all_at hi2 (by simp only [szOk,Bool.and_eq_false_iff,decide_eq_false_iff_not];omega)
   have:chkS sz = 55:=by
    unfold chkS
    rw [if_neg (by omega),if_pos hf]
   rw [this]
   exact .imR rfl rfl
  ·have hk:1≤sz[i]∧sz[i]≤8:=by omega
   rw [prod_step hi2 hi.2 hlen.2 hk]
   refine ⟨i + 1,⟨by omega,?_⟩,by omega,?_⟩
   ·rw [all_snoc hi2,hi.2]
    simp only [szOk,Bool.true_and,Bool.and_eq_true,decide_eq_true_eq]
    exact hk
   ·refine .of [] [] rfl (by first | rfl | (rw [hst];rfl)) ?_ ?_
    all_goals (try exact clA)
 ·have hi2:i = sz.length:=by omega
  subst hi2
  have ha:=hi.2
  rw [List.take_length] at ha ⊢
  refine ⟨fun h3=>?_,fun h3=>?_⟩
  ·have:chkS sz = 55:=by
    unfold chkS
    rw [if_neg (by omega),if_neg (by rw [ha];simp),if_pos (by omega)]
   rw [this]
   exact .imR rfl rfl
  ·have:chkS sz = 0:=by
    unfold chkS
    rw [if_neg (by omega),if_neg (by rw [ha];simp),if_neg (by omega)]
   rw [this]
   exact .imR rfl rfl
end Go.Proofs
