import Derived.Test.YtedgedggeogefaaH39
import Derived.Test.YtedgedggeogefaaStr
set_option linter.unusedSimpArgs false
set_option linter.unusedVariables false
namespace Go.Proofs
open Go Go.TL
theorem c_slices_BinarySearchFunc_Approval_Approval_Approval (c:App→Int) (x:App) (f:FuncId) (caps:List T) (hcap:imL caps = true) (l:List App) (hf:∀ y∈l,Spc Try.prog f (appT y :: appT x :: caps) [] (vI (c y)) []) (hl:l.length < 4611686018427387904)
 (hm:∀ (i j:Nat) (hi:i < l.length) (hj:j < l.length),i < j→c l[j] < 0→c l[i] < 0) :
 Spc Try.prog F_slices_BinarySearchFunc_Approval_Approval_Approval [.sl 4 (l.map appT),appT x,.clo f caps] [] (.tup [vI (l.findIdx fun y=>decide (c y≥0)),vB (match l.find? (fun y=>decide (c y≥0)) with | some y=>c y == 0 | none=>false)]) []:=by
 refine spec_of_ir fn_slices_BinarySearchFunc_Approval_Approval_Approval mixm (by simp) fun e _ hst=>W_start ?_
 unfold ir_slices_BinarySearchFunc_Approval_Approval_Approval
 simp only [tl,tl2,tl4,↓un_u,isCallR,entX,argFr,ret,retI,retB,intT,unT,endR,ressR,resR,tupT,bslR,boxR,lenAll,↓reduceIte,Nat.reduceEqDiff,Nat.reduceAdd,Nat.reduceMul,Nat.reduceLT,Nat.reduceLeDiff,reduceCtorEq,Int.reduceLE,Int.reduceLT,ne_eq,Int.reduceEq,not_false_eq_true,decide_true,decide_false,Int.reduceToNat,tl3,Int.reduceBNe,Int.reduceBEq,rmK,rm1,not_true_eq_false]
 refine W_loopF mixm (α:=Nat×Nat) [9,10] (fun p=>p.1≤p.2∧p.2≤l.length∧(∀ (m:Nat) (h:m < l.length),m < p.1→c l[m] < 0)∧(∀ (m:Nat) (h:m < l.length),p.2≤m→¬ c l[m] < 0)) (fun p=>[(9,vI p.1),(10,vI p.2)]) (fun p=>[(4096,.arr 4 [appT x] false)]) (fun p=>p.2 - p.1) (0,l.length) ?_ ?_ fun p hp=>?_
 ·exact ⟨by simp,by simp,fun m h h2=>absurd h2 (by simp),fun m h h2=>absurd h2 (by simp only;omega)⟩
 ·refine .of [(4096,some 4096)] [] rfl (by first | rfl | (rw [hst];rfl)) ?_ ?_
  all_goals (try exact clA)
 obtain ⟨i,j⟩:=p
 obtain ⟨h1,h2,h3,h4⟩:=hp
 dsimp only at h1 h2 h3 h4
 simp only [tl,tl2,tl4,↓un_u,isCallR,entX,argFr,ret,retI,retB,intT,unT,endR,ressR,resR,tupT,bslR,boxR,lenAll,↓reduceIte,Nat.reduceEqDiff,Nat.reduceAdd,Nat.reduceMul,Nat.reduceLT,Nat.reduceLeDiff,reduceCtorEq,Int.reduceLE,Int.reduceLT,ne_eq,Int.reduceEq,not_false_eq_true,decide_true,decide_false,Int.reduceToNat,tl3,Int.reduceBNe,Int.reduceBEq,rmK,rm1,not_true_eq_false,decide_eq_true_eq,decide_eq_false_iff_not]
 refine ⟨fun h5=>?_,fun h5=>?_⟩
 ·have hij:i < j:=by omega
  obtain ⟨h,hh,hhi,hhj⟩:∃ h:Nat,h = (i + j) / 2∧i≤h∧h < j:=⟨(i + j) / 2,rfl,by omega,by omega⟩
  have hw1:IntKind.i64.wrap ((i:Int) + (j:Int)) = ((i + j:Nat):Int):=by rw [IntWalk.i64_in _ (by omega)];omega
  have hw2:IntKind.u64.wrap ((i + j:Nat):Int) = ((i + j:Nat):Int):=IntWalk.u64_in _ (by omega)
  have hw3:shrI .u64 ((i + j:Nat):Int) 1 = (h:Int):=by
   simp only [shrI]
   rw [show (min (1:Int).toNat IntKind.u64.bits) = 1 from rfl,Int.fdiv_eq_ediv_of_nonneg _ (by decide)]
   omega
  have hw4:IntKind.i64.wrap (h:Int) = (h:Int):=IntWalk.i64_in _ (by omega)
  have hlt:h < l.length:=by omega
  have hws:=i64_succ (i:=h) (by omega)
  have hcall:=hf l[h] (List.getElem_mem hlt)
  simp only [tl,tl2,tl4,↓un_u,isCallR,entX,argFr,ret,retI,retB,intT,unT,endR,ressR,resR,tupT,bslR,boxR,lenAll,↓reduceIte,Nat.reduceEqDiff,Nat.reduceAdd,Nat.reduceMul,Nat.reduceLT,Nat.reduceLeDiff,reduceCtorEq,Int.reduceLE,Int.reduceLT,ne_eq,Int.reduceEq,not_false_eq_true,decide_true,decide_false,Int.reduceToNat,tl3,Int.reduceBNe,Int.reduceBEq,rmK,rm1,not_true_eq_false,hw1,hw2,hw3,hw4,Int.toNat_natCast,getD_mapT hlt]
  refine ⟨by omega,?_⟩
  refine C1.im hcall (imAL_two rfl rfl hcap) rfl ?_
  simp only [tl,tl2,tl4,↓un_u,isCallR,entX,argFr,ret,retI,retB,intT,unT,endR,ressR,resR,tupT,bslR,boxR,lenAll,↓reduceIte,Nat.reduceEqDiff,Nat.reduceAdd,Nat.reduceMul,Nat.reduceLT,Nat.reduceLeDiff,reduceCtorEq,Int.reduceLE,Int.reduceLT,ne_eq,Int.reduceEq,not_false_eq_true,decide_true,decide_false,Int.reduceToNat,tl3,Int.reduceBNe,Int.reduceBEq,rmK,rm1,not_true_eq_false,decide_eq_true_eq,decide_eq_false_iff_not,hws]
  refine ⟨by kernel_rfl,fun h6=>?_,fun h6=>?_⟩
  ·refine ⟨(h + 1,j),⟨by simp only;omega,h2,fun m hm1 hm2=>?_,h4⟩,by simp only;omega,?_⟩
   ·by_cases hmh:m = h
    ·subst hmh;exact h6
    ·exact hm m h hm1 hlt (by simp only at hm2;omega) h6
   ·refine .of [(4096,some 4096)] [] rfl (by first | rfl | (rw [hst];rfl)) ?_ ?_
    all_goals (try exact clA)
  ·refine ⟨(i,h),⟨by simp only;omega,by simp only;omega,h3,fun m hm1 hm2 hm3=>?_⟩,by simp only;omega,?_⟩
   ·by_cases hmh:m = h
    ·subst hmh;exact h6 hm3
    ·exact h6 (hm h m hlt hm1 (by simp only at hm2;omega) hm3)
   ·refine .of [(4096,some 4096)] [] rfl (by first | rfl | (rw [hst];rfl)) ?_ ?_
    all_goals (try exact clA)
 ·have hij:i = j:=by omega
  subst hij
  have hfi:l.findIdx (fun y=>decide (c y≥0)) = i:=by
   by_cases hil:i < l.length
   ·refine findIdx_at hil ?_ (by simpa using h4 i hil (Nat.le_refl _))
    rw [List.any_eq_false]
    intro y hy
    obtain ⟨m,hm1,rfl⟩:=List.getElem_of_mem hy
    rw [List.length_take] at hm1
    rw [List.getElem_take]
    have:=h3 m (by omega) (by omega)
    simp;omega
   ·have:i = l.length:=by omega
    subst this
    rw [List.findIdx_eq_length]
    intro y hy
    obtain ⟨m,hm1,rfl⟩:=List.getElem_of_mem hy
    have:=h3 m hm1 hm1
    simp;omega
  rw [hfi]
  by_cases hil:i < l.length
  ·have hg:decide ((i:Int) < (l.length:Int)) = true:=by simp;omega
   have hcall:=hf l[i] (List.getElem_mem hil)
   have hfd:l.find? (fun y=>decide (c y≥0)) = some l[i]:=by
    refine find_atQ hil ?_ (by simpa using h4 i hil (Nat.le_refl _))
    rw [List.any_eq_false]
    intro y hy
    obtain ⟨m,hm1,rfl⟩:=List.getElem_of_mem hy
    rw [List.length_take] at hm1
    rw [List.getElem_take]
    have:=h3 m (by omega) (by omega)
    simp;omega
   rw [hfd]
   simp only [tl,tl2,tl4,↓un_u,isCallR,entX,argFr,ret,retI,retB,intT,unT,endR,ressR,resR,tupT,bslR,boxR,lenAll,↓reduceIte,Nat.reduceEqDiff,Nat.reduceAdd,Nat.reduceMul,Nat.reduceLT,Nat.reduceLeDiff,reduceCtorEq,Int.reduceLE,Int.reduceLT,ne_eq,Int.reduceEq,not_false_eq_true,decide_true,decide_false,Int.reduceToNat,tl3,Int.reduceBNe,Int.reduceBEq,rmK,rm1,not_true_eq_false,hg,Int.toNat_natCast,getD_mapT hil]
   refine ⟨by omega,C2.one (by first | trivial | omega) (C1.im hcall (imAL_two rfl rfl hcap) rfl ?_)⟩
   simp only [tl,tl2,tl4,↓un_u,isCallR,entX,argFr,ret,retI,retB,intT,unT,endR,ressR,resR,tupT,bslR,boxR,lenAll,↓reduceIte,Nat.reduceEqDiff,Nat.reduceAdd,Nat.reduceMul,Nat.reduceLT,Nat.reduceLeDiff,reduceCtorEq,Int.reduceLE,Int.reduceLT,ne_eq,Int.reduceEq,not_false_eq_true,decide_true,decide_false,Int.reduceToNat,tl3,Int.reduceBNe,Int.reduceBEq,rmK,rm1,not_true_eq_false]
   refine ⟨by kernel_rfl,?_⟩
   refine .of [] [] rfl (by first | rfl | (rw [hst];rfl)) ?_ ?_
   all_goals (try exact clA)
  ·have hg:decide ((i:Int) < (l.length:Int)) = false:=by simp;omega
   have hfd:l.find? (fun y=>decide (c y≥0)) = none:=by
    rw [List.find?_eq_none]
    intro y hy
    obtain ⟨m,hm1,rfl⟩:=List.getElem_of_mem hy
    have:=h3 m hm1 (by omega)
    simp;omega
   rw [hfd]
   simp only [tl,tl2,tl4,↓un_u,isCallR,entX,argFr,ret,retI,retB,intT,unT,endR,ressR,resR,tupT,bslR,boxR,lenAll,↓reduceIte,Nat.reduceEqDiff,Nat.reduceAdd,Nat.reduceMul,Nat.reduceLT,Nat.reduceLeDiff,reduceCtorEq,Int.reduceLE,Int.reduceLT,ne_eq,Int.reduceEq,not_false_eq_true,decide_true,decide_false,Int.reduceToNat,tl3,Int.reduceBNe,Int.reduceBEq,rmK,rm1,not_true_eq_false,hg]
   refine ⟨fun h=>by omega,fun h=>by omega,C2.no (by omega) ?_⟩
   simp only [tl,tl2,tl4,↓un_u,isCallR,entX,argFr,ret,retI,retB,intT,unT,endR,ressR,resR,tupT,bslR,boxR,lenAll,↓reduceIte,Nat.reduceEqDiff,Nat.reduceAdd,Nat.reduceMul,Nat.reduceLT,Nat.reduceLeDiff,reduceCtorEq,Int.reduceLE,Int.reduceLT,ne_eq,Int.reduceEq,not_false_eq_true,decide_true,decide_false,Int.reduceToNat,tl3,Int.reduceBNe,Int.reduceBEq,rmK,rm1,not_true_eq_false,hg,G2_none,not_false_eq_true]
   refine ⟨by kernel_rfl,?_⟩
   refine .of [] [] rfl (by first | rfl | (rw [hst];rfl)) ?_ ?_
   all_goals (try exact clA)
theorem c_approvals_Add_1 (a b:App):Spc Try.prog F_approvals_Add_1 [appT a,appT b] [] (vI (cmpA a b)) []:=by
 refine spec_of_ir fn_approvals_Add_1 mixm (by simp) fun e _ hst=>W_start ?_
 unfold ir_approvals_Add_1
 simp only [tl,tl2,tl4,↓un_u,isCallR,entX,argFr,ret,retI,retB,intT,unT,endR,ressR,resR,tupT,bslR,boxR,lenAll,↓reduceIte,Nat.reduceEqDiff,Nat.reduceAdd,Nat.reduceMul,Nat.reduceLT,Nat.reduceLeDiff,reduceCtorEq,Int.reduceLE,Int.reduceLT,ne_eq,Int.reduceEq,not_false_eq_true,decide_true,decide_false,Int.reduceToNat,tl3,Int.reduceBNe,Int.reduceBEq,rmK,rm1,not_true_eq_false]
 refine C1.im (c_approvals_compare a b) rfl (by rfl) ?_
 simp only [tl,tl2,tl4,↓un_u,isCallR,entX,argFr,ret,retI,retB,intT,unT,endR,ressR,resR,tupT,bslR,boxR,lenAll,↓reduceIte,Nat.reduceEqDiff,Nat.reduceAdd,Nat.reduceMul,Nat.reduceLT,Nat.reduceLeDiff,reduceCtorEq,Int.reduceLE,Int.reduceLT,ne_eq,Int.reduceEq,not_false_eq_true,decide_true,decide_false,Int.reduceToNat,tl3,Int.reduceBNe,Int.reduceBEq,rmK,rm1,not_true_eq_false]
 refine .of [] [] rfl (by first | rfl | (rw [hst];rfl)) ?_ ?_
 all_goals (try exact clA)
theorem befB_trans {a b c:App} (h1:befB a b = true) (h2:befB b c = true):befB a c = true:=by
 unfold befB at *
 simp only [Bool.or_eq_true,decide_eq_true_eq,Bool.and_eq_true,beq_iff_eq] at *
 rcases h1 with h1 | ⟨h1,h3⟩ <;> rcases h2 with h2 | ⟨h2,h4⟩
 ·exact .inl (by omega)
 ·exact .inl (by omega)
 ·exact .inl (by omega)
 ·exact .inr ⟨by omega,bl_trans h3 h4⟩
theorem lt_bef {a b:App}:cmpA a b < 0↔befB a b = true:=by rw [befB_cmp];simp
theorem chk_at {l:List App} (h:chkN l l.length = 0):∀ (i:Nat) (hi:i < l.length),errA l i l[i] = 0:=by
 intro i hi
 have h1:chkN l (i + 1) = 0:=Classical.byContradiction fun hn=>by
  have:=chkN_stays hn l.length (by omega)
  exact hn (this ▸ h)
 have h0:chkN l i = 0:=Classical.byContradiction fun hn=>by
  have:=chkN_stays hn l.length (by omega)
  exact hn (this ▸ h)
 rw [chkN_next hi h0] at h1
 exact h1
theorem chkA_len {l:List App} (h:chkA l = 0):l.length≤60∧chkN l l.length = 0:=by
 unfold chkA at h
 split at h
 ·cases h
 ·exact ⟨by omega,h⟩
theorem chkA_sorted {l:List App} (h:chkA l = 0):∀ (j:Nat) (hj:j < l.length) (i:Nat) (hi:i < j),befB (l[i]'(by omega)) l[j] = true:=by
 obtain ⟨h1,h2⟩:=chkA_len h
 have step:∀ (j:Nat) (hj:j + 1 < l.length),befB (l[j]'(by omega)) l[j + 1] = true:=by
  intro j hj
  have h3:=chk_at h2 (j + 1) hj
  unfold errA at h3
  split at h3
  ·rename_i h4;exact absurd h3 h4
  ·split at h3
   ·cases h3
   ·rename_i h5
    have:¬ cmpA (l.getD j default) l[j + 1]≥0:=fun h6=>h5 ⟨by omega,by simpa using h6⟩
    rw [getD_get (show j < l.length by omega)] at this
    exact lt_bef.1 (by omega)
 intro j
 induction j with
 | zero=>intro hj i hi;omega
 | succ j ih=>
   intro hj i hi
   by_cases e:i = j
   ·subst e;exact step i hj
   ·exact befB_trans (ih (by omega) i (by omega)) (step j hj)
abbrev plA (l:List App) (x:App):Nat:=l.findIdx fun y=>decide (cmpA y x≥0)
def addA (l:List App) (x:App):List App×Int:=
 if chkA l≠0 then (l,chkA l) else if singleI x≠0 then (l,singleI x) else if l.any (ovA x) = true then (l,10) else if l.length = 60 then (l,1)
 else (l.take (plA l x) ++ x :: l.drop (plA l x),0)
theorem c_approvals_Add (l:List App) (x:App) (hl:l.length < 1000000000000):Spc Try.prog F_approvals_Add [vAs l,appT x] [] (pairT (addA l x)) (pairS (addA l x)):=by
 have hck:=c_approvals_Check l (by omega)
 have hsi:=c_approvals_single x
 have hov:=c_approvals_overlaps l x (by omega)
 refine spec_of_ir fn_approvals_Add mixm (by simp) fun e _ hst=>W_start ?_
 unfold ir_approvals_Add
 simp only [tl,tl2,tl4,↓un_u,isCallR,entX,argFr,ret,retI,retB,intT,unT,endR,ressR,resR,tupT,bslR,boxR,lenAll,↓reduceIte,Nat.reduceEqDiff,Nat.reduceAdd,Nat.reduceMul,Nat.reduceLT,Nat.reduceLeDiff,reduceCtorEq,Int.reduceLE,Int.reduceLT,ne_eq,Int.reduceEq,not_false_eq_true,decide_true,decide_false,Int.reduceToNat,tl3,Int.reduceBNe,Int.reduceBEq,rmK,rm1,not_true_eq_false]
 refine C1.fresh 8196 (c_slices_Clone_Approval l hl) rfl (by apply imXs_map;intro _;exact ⟨rfl,rfl⟩) (by rfl) ?_
 simp only [tl,tl2,tl4,↓un_u,isCallR,entX,argFr,ret,retI,retB,intT,unT,endR,ressR,resR,tupT,bslR,boxR,lenAll,↓reduceIte,Nat.reduceEqDiff,Nat.reduceAdd,Nat.reduceMul,Nat.reduceLT,Nat.reduceLeDiff,reduceCtorEq,Int.reduceLE,Int.reduceLT,ne_eq,Int.reduceEq,not_false_eq_true,decide_true,decide_false,Int.reduceToNat,tl3,Int.reduceBNe,Int.reduceBEq,rmK,rm1,not_true_eq_false]
 refine C1.im hck rfl (by rfl) ?_
 simp only [tl,tl2,tl4,↓un_u,isCallR,entX,argFr,ret,retI,retB,intT,unT,endR,ressR,resR,tupT,bslR,boxR,lenAll,↓reduceIte,Nat.reduceEqDiff,Nat.reduceAdd,Nat.reduceMul,Nat.reduceLT,Nat.reduceLeDiff,reduceCtorEq,Int.reduceLE,Int.reduceLT,ne_eq,Int.reduceEq,not_false_eq_true,decide_true,decide_false,Int.reduceToNat,tl3,Int.reduceBNe,Int.reduceBEq,rmK,rm1,not_true_eq_false,bne_iff_ne,bne_eq_false_iff_eq]
 refine ⟨fun h=>?_,fun h=>?_⟩
 ·rw [addA,if_pos h]
  refine .of [(0,some 8196)] [] rfl (by first | rfl | (rw [hst];rfl)) ?_ ?_
  all_goals (try exact clA)
 refine C1.im hsi rfl (by rfl) ?_
 simp only [tl,tl2,tl4,↓un_u,isCallR,entX,argFr,ret,retI,retB,intT,unT,endR,ressR,resR,tupT,bslR,boxR,lenAll,↓reduceIte,Nat.reduceEqDiff,Nat.reduceAdd,Nat.reduceMul,Nat.reduceLT,Nat.reduceLeDiff,reduceCtorEq,Int.reduceLE,Int.reduceLT,ne_eq,Int.reduceEq,not_false_eq_true,decide_true,decide_false,Int.reduceToNat,tl3,Int.reduceBNe,Int.reduceBEq,rmK,rm1,not_true_eq_false,bne_iff_ne,bne_eq_false_iff_eq]
 refine ⟨fun h3=>?_,fun h3=>?_⟩
 ·rw [addA,if_neg (by rw [h];simp),if_pos h3]
  refine .of [(0,some 8196)] [] rfl (by first | rfl | (rw [hst];rfl)) ?_ ?_
  all_goals (try exact clA)
 refine C1.im hov rfl (by rfl) ?_
 simp only [tl,tl2,tl4,↓un_u,isCallR,entX,argFr,ret,retI,retB,intT,unT,endR,ressR,resR,tupT,bslR,boxR,lenAll,↓reduceIte,Nat.reduceEqDiff,Nat.reduceAdd,Nat.reduceMul,Nat.reduceLT,Nat.reduceLeDiff,reduceCtorEq,Int.reduceLE,Int.reduceLT,ne_eq,Int.reduceEq,not_false_eq_true,decide_true,decide_false,Int.reduceToNat,tl3,Int.reduceBNe,Int.reduceBEq,rmK,rm1,not_true_eq_false]
 refine ⟨fun h4=>?_,fun h4=>?_⟩
 ·rw [addA,if_neg (by rw [h];simp),if_neg (by rw [h3];simp),if_pos h4]
  refine .of [(0,some 8196)] [] rfl (by first | rfl | (rw [hst];rfl)) ?_ ?_
  all_goals (try exact clA)
 have hn4:¬ l.any (ovA x) = true:=by rw [h4];simp
 simp only [tl,tl2,tl4,↓un_u,isCallR,entX,argFr,ret,retI,retB,intT,unT,endR,ressR,resR,tupT,bslR,boxR,lenAll,↓reduceIte,Nat.reduceEqDiff,Nat.reduceAdd,Nat.reduceMul,Nat.reduceLT,Nat.reduceLeDiff,reduceCtorEq,Int.reduceLE,Int.reduceLT,ne_eq,Int.reduceEq,not_false_eq_true,decide_true,decide_false,Int.reduceToNat,tl3,Int.reduceBNe,Int.reduceBEq,rmK,rm1,not_true_eq_false,beq_iff_eq,beq_eq_false_iff_ne]
 refine ⟨fun h5=>?_,fun h5=>?_⟩
 ·rw [addA,if_neg (by rw [h];simp),if_neg (by rw [h3];simp),if_neg hn4,if_pos (by omega)]
  refine .of [(0,some 8196)] [] rfl (by first | rfl | (rw [hst];rfl)) ?_ ?_
  all_goals (try exact clA)
 have he:addA l x = (l.take (plA l x) ++ x :: l.drop (plA l x),0):=by rw [addA,if_neg (by rw [h];simp),if_neg (by rw [h3];simp),if_neg hn4,if_neg (by omega)]
 have hpl:plA l x≤l.length:=List.findIdx_le_length
 have hbs:=c_slices_BinarySearchFunc_Approval_Approval_Approval (fun y=>cmpA y x) x F_approvals_Add_1 [] rfl l (fun y _=>c_approvals_Add_1 y x) (by omega) (fun i j hi hj hij hc=>by
  exact lt_bef.2 (befB_trans (chkA_sorted h j hj i hij) (lt_bef.1 hc)))
 refine C1.im hbs (by rfl) (by rfl) ?_
 simp only [tl,tl2,tl4,↓un_u,isCallR,entX,argFr,ret,retI,retB,intT,unT,endR,ressR,resR,tupT,bslR,boxR,lenAll,↓reduceIte,Nat.reduceEqDiff,Nat.reduceAdd,Nat.reduceMul,Nat.reduceLT,Nat.reduceLeDiff,reduceCtorEq,Int.reduceLE,Int.reduceLT,ne_eq,Int.reduceEq,not_false_eq_true,decide_true,decide_false,Int.reduceToNat,tl3,Int.reduceBNe,Int.reduceBEq,rmK,rm1,not_true_eq_false]
 have hin:=c_slices_Insert_Approval l x (plA l x) hpl hl
 refine C1.cutback 8196 57360 4 [57356] hin rfl (by apply imXs_map;intro _;exact ⟨rfl,rfl⟩) (by apply imXs_map;intro _;exact ⟨rfl,rfl⟩) (by apply noA_map;intro _;rfl) (by rfl) ?_ (by rfl) ?_
 ·all_goals (try simp only [ltSto,ltO2,ltO1,ltAs,ltA,ltC,ltC0,ltC0s,ltCs,ltT,ltFr,ltS,wrOk,wrO,TL.get,hasFr,↓reduceIte,Nat.reduceEqDiff,reduceCtorEq,Option.getD_some,Option.isSome_some,List.length_map,List.length_append,List.length_cons,List.length_nil,List.append_nil,List.mem_singleton,List.mem_cons,List.not_mem_nil,and_true,true_and,and_self,imp_self,forall_const,false_implies,implies_true,true_implies,or_false,Bool.false_eq_true,Bool.true_eq_false,ImXs_nil,true_or,or_true,false_or,false_and,and_false,rmK,rm1,List.map_append,List.map_cons,List.map_nil,List.cons_append,List.nil_append])
  all_goals (try (repeat' (first | exact ltXs_nil | (apply ltXs_map;intro _;exact ⟨rfl,rfl⟩) | (apply imXs_map;intro _;exact ⟨rfl,rfl⟩) | with_reducible apply imXs_append | with_reducible refine imXs_cons ⟨rfl,rfl⟩ ?_ | exact imXs_nil | with_reducible apply ltXs_append | with_reducible refine ltXs_cons ⟨rfl,rfl,?_⟩ ?_ | with_reducible apply And.intro | exact ltCs_im rfl | exact ltCs_im (by assumption) | (refine ⟨⟨?_,rfl,?_,rfl,?_⟩,trivial⟩ <;> first | (simp;done) | (apply imXs_map;intro _;exact ⟨rfl,rfl⟩)) | trivial | rfl | (rw [i64_succ (by omega)]) | omega)))
  done
 simp only [tl,tl2,tl4,↓un_u,isCallR,entX,argFr,ret,retI,retB,intT,unT,endR,ressR,resR,tupT,bslR,boxR,lenAll,↓reduceIte,Nat.reduceEqDiff,Nat.reduceAdd,Nat.reduceMul,Nat.reduceLT,Nat.reduceLeDiff,reduceCtorEq,Int.reduceLE,Int.reduceLT,ne_eq,Int.reduceEq,not_false_eq_true,decide_true,decide_false,Int.reduceToNat,tl3,Int.reduceBNe,Int.reduceBEq,rmK,rm1,not_true_eq_false]
 have hel:(l.take (plA l x) ++ x :: l.drop (plA l x)).length = l.length + 1:=by
  rw [List.length_append,List.length_cons,List.length_take,List.length_drop];omega
 rw [he]
 simp only [pairT,pairS,hel]
 refine .of [(0,some 57360)] [] rfl (by first | rfl | (rw [hst];rfl)) ?_ ?_
 all_goals (try exact clA)
end Go.Proofs
