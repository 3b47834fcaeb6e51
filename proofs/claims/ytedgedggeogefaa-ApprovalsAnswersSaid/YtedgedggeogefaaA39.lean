import Derived.Test.YtedgedggeogefaaBase
set_option linter.unusedSimpArgs false
set_option linter.unusedVariables false
namespace Go.Proofs
open Go Go.TL
structure App where
 proj:ByteArray
 res:ByteArray
 fr:Int
 un:Int
abbrev appT (x:App):T:=.agg [vS x.proj,vS x.res,vI x.fr,vI x.un]
abbrev vAs (l:List App):T:=.sl 4 (l.map appT)
instance:Inhabited App:=⟨⟨⟨#[]⟩,⟨#[]⟩,0,0⟩⟩
theorem c_cmp_isNaN_int (n:Int):Spc Try.prog F_cmp_isNaN_int [vI n] [] (vB false) []:=by
 refine spec_of_ir fn_cmp_isNaN_int mixm (by simp) fun e _ hst=>W_start ?_
 unfold ir_cmp_isNaN_int
 simp only [tl,tl2,tl4,↓un_u,isCallR,entX,argFr,ret,retI,retB,intT,unT,endR,ressR,resR,tupT,bslR,boxR,lenAll,↓reduceIte,Nat.reduceEqDiff,Nat.reduceAdd,Nat.reduceMul,Nat.reduceLT,Nat.reduceLeDiff,reduceCtorEq,Int.reduceLE,Int.reduceLT,ne_eq,Int.reduceEq,not_false_eq_true,decide_true,decide_false,Int.reduceToNat,tl3,Int.reduceBNe,Int.reduceBEq,rmK,rm1,not_true_eq_false,bne_self_eq_false]
 refine .of [] [] rfl (by first | rfl | (rw [hst];rfl)) ?_ ?_
 all_goals (try exact clA)
theorem c_cmp_isNaN_string (s:ByteArray):Spc Try.prog F_cmp_isNaN_string [vS s] [] (vB false) []:=by
 refine spec_of_ir fn_cmp_isNaN_string mixm (by simp) fun e _ hst=>W_start ?_
 unfold ir_cmp_isNaN_string
 simp only [tl,tl2,tl4,↓un_u,isCallR,entX,argFr,ret,retI,retB,intT,unT,endR,ressR,resR,tupT,bslR,boxR,lenAll,↓reduceIte,Nat.reduceEqDiff,Nat.reduceAdd,Nat.reduceMul,Nat.reduceLT,Nat.reduceLeDiff,reduceCtorEq,Int.reduceLE,Int.reduceLT,ne_eq,Int.reduceEq,not_false_eq_true,decide_true,decide_false,Int.reduceToNat,tl3,Int.reduceBNe,Int.reduceBEq,rmK,rm1,not_true_eq_false,bne_self_eq_false,beq_self_eq_true,Bool.not_true]
 refine .of [] [] rfl (by first | rfl | (rw [hst];rfl)) ?_ ?_
 all_goals (try exact clA)
def cmpI (a b:Int):Int:=if a < b then -1 else if a > b then 1 else 0
theorem c_cmp_Compare_int (a b:Int):Spc Try.prog F_cmp_Compare_int [vI a,vI b] [] (vI (cmpI a b)) []:=by
 refine spec_of_ir fn_cmp_Compare_int mixm (by simp) fun e _ hst=>W_start ?_
 unfold ir_cmp_Compare_int
 simp only [tl,tl2,tl4,↓un_u,isCallR,entX,argFr,ret,retI,retB,intT,unT,endR,ressR,resR,tupT,bslR,boxR,lenAll,↓reduceIte,Nat.reduceEqDiff,Nat.reduceAdd,Nat.reduceMul,Nat.reduceLT,Nat.reduceLeDiff,reduceCtorEq,Int.reduceLE,Int.reduceLT,ne_eq,Int.reduceEq,not_false_eq_true,decide_true,decide_false,Int.reduceToNat,tl3,Int.reduceBNe,Int.reduceBEq,rmK,rm1,not_true_eq_false]
 refine C1.im (c_cmp_isNaN_int a) rfl (by rfl) ?_
 simp only [tl,tl2,tl4,↓un_u,isCallR,entX,argFr,ret,retI,retB,intT,unT,endR,ressR,resR,tupT,bslR,boxR,lenAll,↓reduceIte,Nat.reduceEqDiff,Nat.reduceAdd,Nat.reduceMul,Nat.reduceLT,Nat.reduceLeDiff,reduceCtorEq,Int.reduceLE,Int.reduceLT,ne_eq,Int.reduceEq,not_false_eq_true,decide_true,decide_false,Int.reduceToNat,tl3,Int.reduceBNe,Int.reduceBEq,rmK,rm1,not_true_eq_false]
 refine C1.im (c_cmp_isNaN_int b) rfl (by rfl) ?_
 simp only [tl,tl2,tl4,↓un_u,isCallR,entX,argFr,ret,retI,retB,intT,unT,endR,ressR,resR,tupT,bslR,boxR,lenAll,↓reduceIte,Nat.reduceEqDiff,Nat.reduceAdd,Nat.reduceMul,Nat.reduceLT,Nat.reduceLeDiff,reduceCtorEq,Int.reduceLE,Int.reduceLT,ne_eq,Int.reduceEq,not_false_eq_true,decide_true,decide_false,Int.reduceToNat,tl3,Int.reduceBNe,Int.reduceBEq,rmK,rm1,not_true_eq_false,decide_eq_true_eq,decide_eq_false_iff_not,Bool.or_eq_true,Bool.or_eq_false_iff,Bool.and_eq_true,Bool.and_eq_false_iff]
 refine ⟨fun h=>?_,fun h=>⟨fun h2=>?_,fun h2=>?_⟩⟩
 ·rw [cmpI,if_pos h]
  refine .of [] [] rfl (by first | rfl | (rw [hst];rfl)) ?_ ?_
  all_goals (try exact clA)
 ·rw [cmpI,if_neg (by omega),if_pos h2]
  refine .of [] [] rfl (by first | rfl | (rw [hst];rfl)) ?_ ?_
  all_goals (try exact clA)
 ·rw [cmpI,if_neg (by omega),if_neg h2]
  refine .of [] [] rfl (by first | rfl | (rw [hst];rfl)) ?_ ?_
  all_goals (try exact clA)
def cmpT (a b:ByteArray):Int:=if Op.bytesLess a.toList b.toList = true then -1 else if a.toList = b.toList then 0 else 1
theorem c_cmp_Compare_string (a b:ByteArray):Spc Try.prog F_cmp_Compare_string [vS a,vS b] [] (vI (cmpT a b)) []:=by
 refine spec_of_ir fn_cmp_Compare_string mixm (by simp) fun e _ hst=>W_start ?_
 unfold ir_cmp_Compare_string
 simp only [tl,tl2,tl4,↓un_u,isCallR,entX,argFr,ret,retI,retB,intT,unT,endR,ressR,resR,tupT,bslR,boxR,lenAll,↓reduceIte,Nat.reduceEqDiff,Nat.reduceAdd,Nat.reduceMul,Nat.reduceLT,Nat.reduceLeDiff,reduceCtorEq,Int.reduceLE,Int.reduceLT,ne_eq,Int.reduceEq,not_false_eq_true,decide_true,decide_false,Int.reduceToNat,tl3,Int.reduceBNe,Int.reduceBEq,rmK,rm1,not_true_eq_false]
 refine C1.im (c_cmp_isNaN_string a) rfl (by rfl) ?_
 simp only [tl,tl2,tl4,↓un_u,isCallR,entX,argFr,ret,retI,retB,intT,unT,endR,ressR,resR,tupT,bslR,boxR,lenAll,↓reduceIte,Nat.reduceEqDiff,Nat.reduceAdd,Nat.reduceMul,Nat.reduceLT,Nat.reduceLeDiff,reduceCtorEq,Int.reduceLE,Int.reduceLT,ne_eq,Int.reduceEq,not_false_eq_true,decide_true,decide_false,Int.reduceToNat,tl3,Int.reduceBNe,Int.reduceBEq,rmK,rm1,not_true_eq_false]
 refine C1.im (c_cmp_isNaN_string b) rfl (by rfl) ?_
 simp only [tl,tl2,tl4,↓un_u,isCallR,entX,argFr,ret,retI,retB,intT,unT,endR,ressR,resR,tupT,bslR,boxR,lenAll,↓reduceIte,Nat.reduceEqDiff,Nat.reduceAdd,Nat.reduceMul,Nat.reduceLT,Nat.reduceLeDiff,reduceCtorEq,Int.reduceLE,Int.reduceLT,ne_eq,Int.reduceEq,not_false_eq_true,decide_true,decide_false,Int.reduceToNat,tl3,Int.reduceBNe,Int.reduceBEq,rmK,rm1,not_true_eq_false,Bool.not_eq_true',Bool.not_eq_false',Bool.or_eq_true,Bool.or_eq_false_iff,beq_iff_eq,beq_eq_false_iff_ne]
 refine ⟨fun h=>?_,fun h=>⟨fun h2=>?_,fun h2=>?_⟩⟩
 ·rw [cmpT,if_pos h]
  refine .of [] [] rfl (by first | rfl | (rw [hst];rfl)) ?_ ?_
  all_goals (try exact clA)
 ·rw [cmpT,if_neg (by rw [h];simp),if_neg h2.2]
  refine .of [] [] rfl (by first | rfl | (rw [hst];rfl)) ?_ ?_
  all_goals (try exact clA)
 ·rw [cmpT,if_neg (by rw [h];simp),if_pos (by rcases h2 with h2 | h2;exact absurd h2 (by rw [h];simp);exact h2)]
  refine .of [] [] rfl (by first | rfl | (rw [hst];rfl)) ?_ ?_
  all_goals (try exact clA)
def orI:List Int→Int
 | []=>0
 | x :: r=>if x = 0 then orI r else x
theorem c_cmp_Or_int (l:List Int) (hl:l.length < 4611686018427387904):Spc Try.prog F_cmp_Or_int [vIs l] [] (vI (orI l)) []:=by
 refine spec_of_ir fn_cmp_Or_int mixm (by simp) fun e _ hst=>W_start ?_
 unfold ir_cmp_Or_int
 simp only [tl,tl2,tl4,↓un_u,isCallR,entX,argFr,ret,retI,retB,intT,unT,endR,ressR,resR,tupT,bslR,boxR,lenAll,↓reduceIte,Nat.reduceEqDiff,Nat.reduceAdd,Nat.reduceMul,Nat.reduceLT,Nat.reduceLeDiff,reduceCtorEq,Int.reduceLE,Int.reduceLT,ne_eq,Int.reduceEq,not_false_eq_true,decide_true,decide_false,Int.reduceToNat,tl3,Int.reduceBNe,Int.reduceBEq,rmK,rm1,not_true_eq_false]
 refine W_loopF mixm (α:=Nat) [8] (fun i=>i≤l.length∧(orI l = orI (l.drop i))) (fun i=>[(8,vI i)]) (fun i=>[]) (fun i=>l.length - i) 0 ⟨by omega,?_⟩ ?_ fun i hi=>?_
 ·rfl
 ·refine .of [] [] rfl (by first | rfl | (rw [hst];rfl)) ?_ ?_
  all_goals (try exact clA)
 simp only [tl,tl2,tl4,↓un_u,isCallR,entX,argFr,ret,retI,retB,intT,unT,endR,ressR,resR,tupT,bslR,boxR,lenAll,↓reduceIte,Nat.reduceEqDiff,Nat.reduceAdd,Nat.reduceMul,Nat.reduceLT,Nat.reduceLeDiff,reduceCtorEq,Int.reduceLE,Int.reduceLT,ne_eq,Int.reduceEq,not_false_eq_true,decide_true,decide_false,Int.reduceToNat,tl3,Int.reduceBNe,Int.reduceBEq,rmK,rm1,not_true_eq_false,decide_eq_true_eq,decide_eq_false_iff_not]
 refine ⟨fun h=>?_,fun h=>?_⟩
 ·have hd:=List.drop_eq_getElem_cons (show i < l.length by omega)
  have h0:=hi.2
  rw [hd] at h0
  simp only [orI] at h0
  have hi2:i < l.length:=by omega
  have hwi:=i64_succ (i:=i) (by omega)
  simp only [tl,tl2,tl4,↓un_u,isCallR,entX,argFr,ret,retI,retB,intT,unT,endR,ressR,resR,tupT,bslR,boxR,lenAll,↓reduceIte,Nat.reduceEqDiff,Nat.reduceAdd,Nat.reduceMul,Nat.reduceLT,Nat.reduceLeDiff,reduceCtorEq,Int.reduceLE,Int.reduceLT,ne_eq,Int.reduceEq,not_false_eq_true,decide_true,decide_false,Int.reduceToNat,tl3,Int.reduceBNe,Int.reduceBEq,rmK,rm1,not_true_eq_false,Int.toNat_natCast,getD_mapT hi2,hwi,bne_iff_ne,bne_eq_false_iff_eq]
  refine ⟨by omega,fun h3=>?_,fun h3=>⟨i + 1,⟨by omega,?_⟩,by omega,?_⟩⟩
  ·rw [h0,if_neg h3]
   refine .of [] [] rfl (by first | rfl | (rw [hst];rfl)) ?_ ?_
   all_goals (try exact clA)
  ·rw [h0,if_pos h3]
  ·refine .of [] [] rfl (by first | rfl | (rw [hst];rfl)) ?_ ?_
   all_goals (try exact clA)
 ·have hi2:i = l.length:=by omega
  subst hi2
  have h0:=hi.2
  rw [List.drop_length] at h0
  rw [h0]
  refine .of [] [] rfl (by first | rfl | (rw [hst];rfl)) ?_ ?_
  all_goals (try exact clA)
def cmpA (a b:App):Int:=orI [cmpI a.fr b.fr,cmpT a.proj b.proj]
theorem c_approvals_compare (a b:App):Spc Try.prog F_approvals_compare [appT a,appT b] [] (vI (cmpA a b)) []:=by
 refine spec_of_ir fn_approvals_compare mixm (by simp) fun e _ hst=>W_start ?_
 unfold ir_approvals_compare
 simp only [tl,tl2,tl4,↓un_u,isCallR,entX,argFr,ret,retI,retB,intT,unT,endR,ressR,resR,tupT,bslR,boxR,lenAll,↓reduceIte,Nat.reduceEqDiff,Nat.reduceAdd,Nat.reduceMul,Nat.reduceLT,Nat.reduceLeDiff,reduceCtorEq,Int.reduceLE,Int.reduceLT,ne_eq,Int.reduceEq,not_false_eq_true,decide_true,decide_false,Int.reduceToNat,tl3,Int.reduceBNe,Int.reduceBEq,rmK,rm1,not_true_eq_false]
 refine C1.im (c_cmp_Compare_int a.fr b.fr) rfl (by rfl) ?_
 simp only [tl,tl2,tl4,↓un_u,isCallR,entX,argFr,ret,retI,retB,intT,unT,endR,ressR,resR,tupT,bslR,boxR,lenAll,↓reduceIte,Nat.reduceEqDiff,Nat.reduceAdd,Nat.reduceMul,Nat.reduceLT,Nat.reduceLeDiff,reduceCtorEq,Int.reduceLE,Int.reduceLT,ne_eq,Int.reduceEq,not_false_eq_true,decide_true,decide_false,Int.reduceToNat,tl3,Int.reduceBNe,Int.reduceBEq,rmK,rm1,not_true_eq_false]
 refine C1.im (c_cmp_Compare_string a.proj b.proj) rfl (by rfl) ?_
 simp only [tl,tl2,tl4,↓un_u,isCallR,entX,argFr,ret,retI,retB,intT,unT,endR,ressR,resR,tupT,bslR,boxR,lenAll,↓reduceIte,Nat.reduceEqDiff,Nat.reduceAdd,Nat.reduceMul,Nat.reduceLT,Nat.reduceLeDiff,reduceCtorEq,Int.reduceLE,Int.reduceLT,ne_eq,Int.reduceEq,not_false_eq_true,decide_true,decide_false,Int.reduceToNat,tl3,Int.reduceBNe,Int.reduceBEq,rmK,rm1,not_true_eq_false]
 refine C1.shut [8232] (c_cmp_Or_int [cmpI a.fr b.fr,cmpT a.proj b.proj] (by simp)) ?_ (by rfl) rfl ?_
 ·all_goals (try exact clA)
 simp only [tl,tl2,tl4,↓un_u,isCallR,entX,argFr,ret,retI,retB,intT,unT,endR,ressR,resR,tupT,bslR,boxR,lenAll,↓reduceIte,Nat.reduceEqDiff,Nat.reduceAdd,Nat.reduceMul,Nat.reduceLT,Nat.reduceLeDiff,reduceCtorEq,Int.reduceLE,Int.reduceLT,ne_eq,Int.reduceEq,not_false_eq_true,decide_true,decide_false,Int.reduceToNat,tl3,Int.reduceBNe,Int.reduceBEq,rmK,rm1,not_true_eq_false]
 refine ⟨by kernel_rfl,?_⟩
 refine .of [] [] rfl (by first | rfl | (rw [hst];rfl)) ?_ ?_
 all_goals (try exact clA)
def ovA (x y:App):Bool:=(y.proj.toList == x.proj.toList) && decide (y.fr < x.un) && decide (x.fr < y.un)
theorem c_approvals_overlaps_1 (y x:App):Spc Try.prog F_approvals_overlaps_1 [appT y,.ip (appT x).cells] [] (vB (ovA x y)) []:=by
 refine spec_of_ir fn_approvals_overlaps_1 mixm (by simp) fun e _ hst=>W_start ?_
 unfold ir_approvals_overlaps_1
 simp only [tl,tl2,tl4,↓un_u,isCallR,entX,argFr,ret,retI,retB,intT,unT,endR,ressR,resR,tupT,bslR,boxR,lenAll,↓reduceIte,Nat.reduceEqDiff,Nat.reduceAdd,Nat.reduceMul,Nat.reduceLT,Nat.reduceLeDiff,reduceCtorEq,Int.reduceLE,Int.reduceLT,ne_eq,Int.reduceEq,not_false_eq_true,decide_true,decide_false,Int.reduceToNat,tl3,Int.reduceBNe,Int.reduceBEq,rmK,rm1,not_true_eq_false]
 refine .of [] [] rfl (by first | rfl | (rw [hst];rfl)) ?_ ?_
 all_goals (try exact clA)
def atA (p:ByteArray) (t:Int) (x:App):Bool:=(x.proj.toList == p.toList) && decide (x.fr≤t) && decide (t < x.un)
theorem c_approvals_find_1 (x:App) (p:ByteArray) (t:Int):Spc Try.prog F_approvals_find_1 [appT x,.ip [vS p],.ip [vI t]] [] (vB (atA p t x)) []:=by
 refine spec_of_ir fn_approvals_find_1 mixm (by simp) fun e _ hst=>W_start ?_
 unfold ir_approvals_find_1
 simp only [tl,tl2,tl4,↓un_u,isCallR,entX,argFr,ret,retI,retB,intT,unT,endR,ressR,resR,tupT,bslR,boxR,lenAll,↓reduceIte,Nat.reduceEqDiff,Nat.reduceAdd,Nat.reduceMul,Nat.reduceLT,Nat.reduceLeDiff,reduceCtorEq,Int.reduceLE,Int.reduceLT,ne_eq,Int.reduceEq,not_false_eq_true,decide_true,decide_false,Int.reduceToNat,tl3,Int.reduceBNe,Int.reduceBEq,rmK,rm1,not_true_eq_false]
 refine .of [] [] rfl (by first | rfl | (rw [hst];rfl)) ?_ ?_
 all_goals (try exact clA)
theorem imXs_app (x:App):ImXs 4 [appT x]:=imXs_cons ⟨rfl,rfl⟩ imXs_nil
theorem c_slices_IndexFunc_Approval (p:App→Bool) (f:FuncId) (caps:List T) (hcap:imL caps = true) (l:List App) (hf:∀ y∈l,Spc Try.prog f (appT y :: caps) [] (vB (p y)) []) (hl:l.length < 4611686018427387904) :
 Spc Try.prog F_slices_IndexFunc_Approval [.sl 4 (l.map appT),.clo f caps] [] (vI (idxI p l)) []:=by
 refine spec_of_ir fn_slices_IndexFunc_Approval mixm (by simp) fun e _ hst=>W_start ?_
 unfold ir_slices_IndexFunc_Approval
 simp only [tl,tl2,tl4,↓un_u,isCallR,entX,argFr,ret,retI,retB,intT,unT,endR,ressR,resR,tupT,bslR,boxR,lenAll,↓reduceIte,Nat.reduceEqDiff,Nat.reduceAdd,Nat.reduceMul,Nat.reduceLT,Nat.reduceLeDiff,reduceCtorEq,Int.reduceLE,Int.reduceLT,ne_eq,Int.reduceEq,not_false_eq_true,decide_true,decide_false,Int.reduceToNat,tl3,Int.reduceBNe,Int.reduceBEq,rmK,rm1,not_true_eq_false]
 refine W_loopF mixm (α:=Nat) [8] (fun i=>i≤l.length∧((l.take i).any p = false)) (fun i=>[(8,vI i)]) (fun i=>[]) (fun i=>l.length - i) 0 ⟨by omega,?_⟩ ?_ fun i hi=>?_
 ·simp
 ·refine .of [] [] rfl (by first | rfl | (rw [hst];rfl)) ?_ ?_
  all_goals (try exact clA)
 simp only [tl,tl2,tl4,↓un_u,isCallR,entX,argFr,ret,retI,retB,intT,unT,endR,ressR,resR,tupT,bslR,boxR,lenAll,↓reduceIte,Nat.reduceEqDiff,Nat.reduceAdd,Nat.reduceMul,Nat.reduceLT,Nat.reduceLeDiff,reduceCtorEq,Int.reduceLE,Int.reduceLT,ne_eq,Int.reduceEq,not_false_eq_true,decide_true,decide_false,Int.reduceToNat,tl3,Int.reduceBNe,Int.reduceBEq,rmK,rm1,not_true_eq_false,decide_eq_true_eq,decide_eq_false_iff_not]
 refine ⟨fun h=>?_,fun h=>?_⟩
 ·have hi2:i < l.length:=by omega
  have hwi:=i64_succ (i:=i) (by omega)
  simp only [tl,tl2,tl4,↓un_u,isCallR,entX,argFr,ret,retI,retB,intT,unT,endR,ressR,resR,tupT,bslR,boxR,lenAll,↓reduceIte,Nat.reduceEqDiff,Nat.reduceAdd,Nat.reduceMul,Nat.reduceLT,Nat.reduceLeDiff,reduceCtorEq,Int.reduceLE,Int.reduceLT,ne_eq,Int.reduceEq,not_false_eq_true,decide_true,decide_false,Int.reduceToNat,tl3,Int.reduceBNe,Int.reduceBEq,rmK,rm1,not_true_eq_false,Int.toNat_natCast,getD_mapT hi2,hwi,cells_v]
  refine ⟨by omega,?_⟩
  refine C1.im (hf l[i] (List.getElem_mem hi2)) (imAL_cons rfl hcap) rfl ?_
  simp only [tl,tl2,tl4,↓un_u,isCallR,entX,argFr,ret,retI,retB,intT,unT,endR,ressR,resR,tupT,bslR,boxR,lenAll,↓reduceIte,Nat.reduceEqDiff,Nat.reduceAdd,Nat.reduceMul,Nat.reduceLT,Nat.reduceLeDiff,reduceCtorEq,Int.reduceLE,Int.reduceLT,ne_eq,Int.reduceEq,not_false_eq_true,decide_true,decide_false,Int.reduceToNat,tl3,Int.reduceBNe,Int.reduceBEq,rmK,rm1,not_true_eq_false]
  refine ⟨fun h3=>?_,fun h3=>⟨i + 1,⟨by omega,any_snoc hi2 hi.2 h3⟩,by omega,?_⟩⟩
  ·rw [idxI,if_pos (any_at hi2 h3),findIdx_at hi2 hi.2 h3]
   exact .imR rfl rfl
  ·refine .of [] [] rfl (by first | rfl | (rw [hst];rfl)) ?_ ?_
   all_goals (try exact clA)
 ·have h2:i = l.length:=by omega
  have h3:=hi.2
  rw [h2,List.take_length] at h3
  rw [idxI,if_neg (by rw [h3];simp)]
  exact .imR rfl rfl
theorem c_slices_ContainsFunc_Approval (p:App→Bool) (f:FuncId) (caps:List T) (hcap:imL caps = true) (l:List App) (hf:∀ y∈l,Spc Try.prog f (appT y :: caps) [] (vB (p y)) []) (hl:l.length < 4611686018427387904) :
 Spc Try.prog F_slices_ContainsFunc_Approval [.sl 4 (l.map appT),.clo f caps] [] (vB (l.any p)) []:=by
 refine spec_of_ir fn_slices_ContainsFunc_Approval mixm (by simp) fun e _ hst=>W_start ?_
 unfold ir_slices_ContainsFunc_Approval
 simp only [tl,tl2,tl4,↓un_u,isCallR,entX,argFr,ret,retI,retB,intT,unT,endR,ressR,resR,tupT,bslR,boxR,lenAll,↓reduceIte,Nat.reduceEqDiff,Nat.reduceAdd,Nat.reduceMul,Nat.reduceLT,Nat.reduceLeDiff,reduceCtorEq,Int.reduceLE,Int.reduceLT,ne_eq,Int.reduceEq,not_false_eq_true,decide_true,decide_false,Int.reduceToNat,tl3,Int.reduceBNe,Int.reduceBEq,rmK,rm1,not_true_eq_false]
 refine C1.im (c_slices_IndexFunc_Approval p f caps hcap l hf hl) (imAL_clo rfl hcap) rfl ?_
 simp only [tl,tl2,tl4,↓un_u,isCallR,entX,argFr,ret,retI,retB,intT,unT,endR,ressR,resR,tupT,bslR,boxR,lenAll,↓reduceIte,Nat.reduceEqDiff,Nat.reduceAdd,Nat.reduceMul,Nat.reduceLT,Nat.reduceLeDiff,reduceCtorEq,Int.reduceLE,Int.reduceLT,ne_eq,Int.reduceEq,not_false_eq_true,decide_true,decide_false,Int.reduceToNat,tl3,Int.reduceBNe,Int.reduceBEq,rmK,rm1,not_true_eq_false]
 rw [show decide (idxI p l≥0) = l.any p from idxI_ge p l]
 exact .imR rfl rfl
theorem c_approvals_overlaps (l:List App) (x:App) (hl:l.length < 4611686018427387904):Spc Try.prog F_approvals_overlaps [vAs l,appT x] [] (vB (l.any (ovA x))) []:=by
 have hc:=c_slices_ContainsFunc_Approval (ovA x) F_approvals_overlaps_1 [.ip (appT x).cells] rfl l (fun y _=>c_approvals_overlaps_1 y x) hl
 refine spec_of_ir fn_approvals_overlaps mixm (by simp) fun e _ hst=>W_start ?_
 unfold ir_approvals_overlaps
 simp only [tl,tl2,tl4,↓un_u,isCallR,entX,argFr,ret,retI,retB,intT,unT,endR,ressR,resR,tupT,bslR,boxR,lenAll,↓reduceIte,Nat.reduceEqDiff,Nat.reduceAdd,Nat.reduceMul,Nat.reduceLT,Nat.reduceLeDiff,reduceCtorEq,Int.reduceLE,Int.reduceLT,ne_eq,Int.reduceEq,not_false_eq_true,decide_true,decide_false,Int.reduceToNat,tl3,Int.reduceBNe,Int.reduceBEq,rmK,rm1,not_true_eq_false]
 refine C1.lend [4096] hc ?_ (by rfl) (by rfl) ?_
 ·all_goals (try simp only [ltSto,ltO2,ltO1,ltAs,ltA,ltC,ltC0,ltC0s,ltCs,ltT,ltFr,ltS,wrOk,wrO,TL.get,hasFr,↓reduceIte,Nat.reduceEqDiff,reduceCtorEq,Option.getD_some,Option.isSome_some,List.length_map,List.length_append,List.length_cons,List.length_nil,List.append_nil,List.mem_singleton,List.mem_cons,List.not_mem_nil,and_true,true_and,and_self,imp_self,forall_const,false_implies,implies_true,true_implies,or_false,Bool.false_eq_true,Bool.true_eq_false,ImXs_nil,true_or,or_true,false_or,false_and,and_false,rmK,rm1,List.map_append,List.map_cons,List.map_nil,List.cons_append,List.nil_append])
  all_goals (try (repeat' (first | exact ltXs_nil | (apply ltXs_map;intro _;exact ⟨rfl,rfl⟩) | (apply imXs_map;intro _;exact ⟨rfl,rfl⟩) | with_reducible apply imXs_append | with_reducible refine imXs_cons ⟨rfl,rfl⟩ ?_ | exact imXs_nil | with_reducible apply ltXs_append | with_reducible refine ltXs_cons ⟨rfl,rfl,?_⟩ ?_ | with_reducible apply And.intro | exact ltCs_im rfl | exact ltCs_im (by assumption) | (refine ⟨⟨?_,rfl,?_,rfl,?_⟩,trivial⟩ <;> first | (simp;done) | (apply imXs_map;intro _;exact ⟨rfl,rfl⟩)) | trivial | rfl | (rw [i64_succ (by omega)]) | omega)))
  simp only [ltSto,ltO2,ltO1,ltAs,ltA,ltC,ltC0,ltC0s,ltCs,ltT,ltFr,ltS,wrOk,wrO,TL.get,hasFr,↓reduceIte,Nat.reduceEqDiff,reduceCtorEq,Option.getD_some,Option.isSome_some,List.length_map,List.length_append,List.length_cons,List.length_nil,List.append_nil,List.mem_singleton,List.mem_cons,List.not_mem_nil,and_true,true_and,and_self,imp_self,forall_const,false_implies,implies_true,true_implies,or_false,Bool.false_eq_true,Bool.true_eq_false,ImXs_nil,true_or,or_true,false_or,false_and,and_false,rmK,rm1,ltP,List.cons_append,List.nil_append]
  exact ⟨by omega,rfl,imXs_app x⟩
 simp only [tl,tl2,tl4,↓un_u,isCallR,entX,argFr,ret,retI,retB,intT,unT,endR,ressR,resR,tupT,bslR,boxR,lenAll,↓reduceIte,Nat.reduceEqDiff,Nat.reduceAdd,Nat.reduceMul,Nat.reduceLT,Nat.reduceLeDiff,reduceCtorEq,Int.reduceLE,Int.reduceLT,ne_eq,Int.reduceEq,not_false_eq_true,decide_true,decide_false,Int.reduceToNat,tl3,Int.reduceBNe,Int.reduceBEq,rmK,rm1,not_true_eq_false]
 refine .of [] [] rfl (by first | rfl | (rw [hst];rfl)) ?_ ?_
 all_goals (try exact clA)
def findI (l:List App) (p:ByteArray) (t:Int):Int:=idxI (atA p t) l
theorem c_approvals_find (l:List App) (p:ByteArray) (t:Int) (hl:l.length < 4611686018427387904):Spc Try.prog F_approvals_find [vAs l,vS p,vI t] [] (vI (findI l p t)) []:=by
 have hc:=c_slices_IndexFunc_Approval (atA p t) F_approvals_find_1 [.ip [vS p],.ip [vI t]] rfl l (fun y _=>c_approvals_find_1 y p t) hl
 refine spec_of_ir fn_approvals_find mixm (by simp) fun e _ hst=>W_start ?_
 unfold ir_approvals_find
 simp only [tl,tl2,tl4,↓un_u,isCallR,entX,argFr,ret,retI,retB,intT,unT,endR,ressR,resR,tupT,bslR,boxR,lenAll,↓reduceIte,Nat.reduceEqDiff,Nat.reduceAdd,Nat.reduceMul,Nat.reduceLT,Nat.reduceLeDiff,reduceCtorEq,Int.reduceLE,Int.reduceLT,ne_eq,Int.reduceEq,not_false_eq_true,decide_true,decide_false,Int.reduceToNat,tl3,Int.reduceBNe,Int.reduceBEq,rmK,rm1,not_true_eq_false]
 refine C1.lend [4096,4100] hc ?_ (by rfl) (by rfl) ?_
 ·all_goals (try simp only [ltSto,ltO2,ltO1,ltAs,ltA,ltC,ltC0,ltC0s,ltCs,ltT,ltFr,ltS,wrOk,wrO,TL.get,hasFr,↓reduceIte,Nat.reduceEqDiff,reduceCtorEq,Option.getD_some,Option.isSome_some,List.length_map,List.length_append,List.length_cons,List.length_nil,List.append_nil,List.mem_singleton,List.mem_cons,List.not_mem_nil,and_true,true_and,and_self,imp_self,forall_const,false_implies,implies_true,true_implies,or_false,Bool.false_eq_true,Bool.true_eq_false,ImXs_nil,true_or,or_true,false_or,false_and,and_false,rmK,rm1,List.map_append,List.map_cons,List.map_nil,List.cons_append,List.nil_append])
  all_goals (try (repeat' (first | exact ltXs_nil | (apply ltXs_map;intro _;exact ⟨rfl,rfl⟩) | (apply imXs_map;intro _;exact ⟨rfl,rfl⟩) | with_reducible apply imXs_append | with_reducible refine imXs_cons ⟨rfl,rfl⟩ ?_ | exact imXs_nil | with_reducible apply ltXs_append | with_reducible refine ltXs_cons ⟨rfl,rfl,?_⟩ ?_ | with_reducible apply And.intro | exact ltCs_im rfl | exact ltCs_im (by assumption) | (refine ⟨⟨?_,rfl,?_,rfl,?_⟩,trivial⟩ <;> first | (simp;done) | (apply imXs_map;intro _;exact ⟨rfl,rfl⟩)) | trivial | rfl | (rw [i64_succ (by omega)]) | omega)))
  all_goals
   simp only [ltSto,ltO2,ltO1,ltAs,ltA,ltC,ltC0,ltC0s,ltCs,ltT,ltFr,ltS,wrOk,wrO,TL.get,hasFr,↓reduceIte,Nat.reduceEqDiff,reduceCtorEq,Option.getD_some,Option.isSome_some,List.length_map,List.length_append,List.length_cons,List.length_nil,List.append_nil,List.mem_singleton,List.mem_cons,List.not_mem_nil,and_true,true_and,and_self,imp_self,forall_const,false_implies,implies_true,true_implies,or_false,Bool.false_eq_true,Bool.true_eq_false,ImXs_nil,true_or,or_true,false_or,false_and,and_false,rmK,rm1,ltP,List.cons_append,List.nil_append]
   exact ⟨by omega,rfl,imXs_cons ⟨rfl,rfl⟩ imXs_nil⟩
 simp only [tl,tl2,tl4,↓un_u,isCallR,entX,argFr,ret,retI,retB,intT,unT,endR,ressR,resR,tupT,bslR,boxR,lenAll,↓reduceIte,Nat.reduceEqDiff,Nat.reduceAdd,Nat.reduceMul,Nat.reduceLT,Nat.reduceLeDiff,reduceCtorEq,Int.reduceLE,Int.reduceLT,ne_eq,Int.reduceEq,not_false_eq_true,decide_true,decide_false,Int.reduceToNat,tl3,Int.reduceBNe,Int.reduceBEq,rmK,rm1,not_true_eq_false]
 refine .of [] [] rfl (by first | rfl | (rw [hst];rfl)) ?_ ?_
 all_goals (try exact clA)
end Go.Proofs
