import Derived.Test.YtgdfndldfmjfhaaDoorL29
set_option linter.unusedSimpArgs false
set_option linter.unusedVariables false
namespace Go.Proofs
open Go Go.TL
theorem ints_true (l:List Int):sameL (fun x y:Int=>x == y) l l = true:=sameL_refl (fun x=>by simp) l
theorem c_ref29_Same (l:List Eqn) (hl:l.length < 4611686018427387904) (hx:∀ x∈l,x.cells.length < 4611686018427387904):Spc Tryd.prog F_ref29_Same [vQs l,vQs l] [] (vB true) []:=by
 refine spec_of_ir fn_ref29_Same mixm (by simp) fun e _ hst=>W_start ?_
 unfold ir_ref29_Same
 simp only [tl,tl2,tl4,↓un_u,isCallR,entX,argFr,ret,retI,retB,intT,unT,endR,ressR,resR,tupT,bslR,boxR,lenAll,↓reduceIte,Nat.reduceEqDiff,Nat.reduceAdd,Nat.reduceMul,Nat.reduceLT,Nat.reduceLeDiff,reduceCtorEq,Int.reduceLE,Int.reduceLT,ne_eq,Int.reduceEq,not_false_eq_true,decide_true,decide_false,Int.reduceToNat,tl3,Int.reduceBNe,Int.reduceBEq,rmK,rm1,not_true_eq_false,bne_self_eq_false]
 refine W_loopF mixm (α:=Nat) [13] (fun i=>i≤l.length) (fun i=>[(13,vI i)]) (fun _=>[]) (fun i=>l.length - i) 0 (by omega) ?_ fun i hi=>?_
 ·refine .of [] [] rfl (by first | rfl | (rw [hst];rfl)) ?_ ?_
  all_goals (try exact clA)
 simp only [tl,tl2,tl4,↓un_u,isCallR,entX,argFr,ret,retI,retB,intT,unT,endR,ressR,resR,tupT,bslR,boxR,lenAll,↓reduceIte,Nat.reduceEqDiff,Nat.reduceAdd,Nat.reduceMul,Nat.reduceLT,Nat.reduceLeDiff,reduceCtorEq,Int.reduceLE,Int.reduceLT,ne_eq,Int.reduceEq,not_false_eq_true,decide_true,decide_false,Int.reduceToNat,tl3,Int.reduceBNe,Int.reduceBEq,rmK,rm1,not_true_eq_false,decide_eq_true_eq,decide_eq_false_iff_not]
 refine ⟨fun h=>?_,fun h=>?_⟩
 ·have hxi:=hx _ (List.getElem_mem (show i < l.length by omega))
  have hi2:i < l.length:=by omega
  have hwi:=i64_succ (i:=i) (by omega)
  simp only [tl,tl2,tl4,↓un_u,isCallR,entX,argFr,ret,retI,retB,intT,unT,endR,ressR,resR,tupT,bslR,boxR,lenAll,↓reduceIte,Nat.reduceEqDiff,Nat.reduceAdd,Nat.reduceMul,Nat.reduceLT,Nat.reduceLeDiff,reduceCtorEq,Int.reduceLE,Int.reduceLT,ne_eq,Int.reduceEq,not_false_eq_true,decide_true,decide_false,Int.reduceToNat,tl3,Int.reduceBNe,Int.reduceBEq,rmK,rm1,not_true_eq_false,Int.toNat_natCast,getD_mapT hi2,hwi,bne_self_eq_false]
  have hI:=c_ref28_Ints l[i].cells l[i].cells hxi hxi
  rw [ints_true] at hI
  refine ⟨by omega,by omega,by omega,by omega,C2.one trivial (C1.im hI rfl (by rfl) ?_)⟩
  refine sW ?_
  refine ⟨by kernel_rfl,i + 1,by omega,by omega,?_⟩
  refine .of [] [] rfl (by first | rfl | (rw [hst];rfl)) ?_ ?_
  all_goals (try exact clA)
 ·refine .of [] [] rfl (by first | rfl | (rw [hst];rfl)) ?_ ?_
  all_goals (try exact clA)
theorem c_equations_Of (sz:List Int) (r:Rls) (hl:sz.length < 4611686018427387904) (hr:RlsSm r) :
 Spc Tryd.prog F_equations_Of [spT sz,rlsT r] [] (.tup [vQs (allA sz [r]).1,vI (allA sz [r]).2]) []:=by
 refine spec_of_ir fn_equations_Of mixm (by simp) fun e _ hst=>W_start ?_
 unfold ir_equations_Of
 refine sW ?_
 refine C1.shut [8200] (c_equations_All sz [r] hl (by simp) (fun x hx=>by simp only [List.mem_cons,List.not_mem_nil,or_false] at hx;rw [hx];exact hr)) ?_ (by rfl) rfl ?_
 ·all_goals (try exact clA)
 refine sW ?_
 refine .of [] [] rfl (by first | rfl | (rw [hst];rfl)) ?_ ?_
 all_goals (try exact clA)
theorem gAt_take (gs:List (List Int)) (at_:List Int) (i:Nat):gAt (gs.take i) (at_.take i) = (gAt gs at_).take i:=by
 unfold gAt
 rw [List.take_zipWith]
theorem okGs_take {sz:List Int} {gs:List (List Int)} (hl:gs.length = sz.length) (h:okGs sz gs = true) (i:Nat):okGs (sz.take i) (gs.take i) = true:=by
 have e:okGs sz gs = okGs (sz.take i ++ sz.drop i) (gs.take i ++ gs.drop i):=by rw [List.take_append_drop,List.take_append_drop]
 rw [e,okGs_append (by simp;omega),Bool.and_eq_true] at h
 exact h.1
theorem gAt_inR {sz:List Int} {gs:List (List Int)} {at_:List Int} (hl:gs.length = sz.length) (h:okGs sz gs = true) (hr:inR sz at_) (i:Nat) (hn:((gAt gs at_).take i).any (fun g=>decide (g < 0)) = false):inR ((gs.map gN).take i) ((gAt gs at_).take i):=by
 have:=(gAt_in (sz:=sz.take i) (gs:=gs.take i) (by simp;omega) (okGs_take hl h i) (inR_take i hr)).2.1
 rw [gAt_take] at this
 rw [← List.map_take]
 exact this hn
theorem num_step2 {sz at_:List Int} {i:Nat} (ha:sz.all szOk = true) (hl:sz.length≤4) (hr:inR (sz.take (i + 1)) (at_.take (i + 1))) (h:i < sz.length) (h2:i < at_.length) :
 IntKind.i64.wrap (IntKind.i64.wrap (numL (sz.take i) (at_.take i) * sz[i]) + at_[i]) = numL (sz.take (i + 1)) (at_.take (i + 1)):=by
 have:=num_step (sz:=sz.take (i + 1)) (at_:=at_.take (i + 1)) (i:=i) (all_take ha _) (by rw [List.length_take];omega) hr (by rw [List.length_take];omega) (by rw [List.length_take];omega)
 simp only [List.take_take,Nat.min_eq_left (Nat.le_succ i),List.getElem_take,Nat.min_self,Nat.succ_eq_add_one] at this
 exact this
theorem c_ref28_Of {sz:List Int} {gs:List (List Int)} (hv:VwOk sz gs) (c:Int) (hc:0≤c∧c < prodI sz):Spc Tryd.prog F_ref28_Of [spT sz,vwT gs,vI c] [] (vI (ofS sz gs c)) []:=by
 have hvl:=hv.len
 have hvs:=hv.sp.len
 have hgl:(gs.map gN).length = gs.length:=List.length_map _
 refine spec_of_ir fn_ref28_Of mixm (by simp) fun e _ hst=>W_start ?_
 unfold ir_ref28_Of
 refine sW ?_
 refine C1.shut [] (c_ref28_At sz c hv.sp hc) ?_ (by rfl) rfl ?_
 ·simp only [ltSto,ltO2,ltO1,ltAs,ltA,ltC,ltC0,ltC0s,ltCs,ltT,ltFr,ltS,wrOk,wrO,TL.get,hasFr,↓reduceIte,Nat.reduceEqDiff,reduceCtorEq,Option.getD_some,Option.isSome_some,List.length_map,List.length_append,List.length_cons,List.length_nil,List.append_nil,List.mem_singleton,List.mem_cons,List.not_mem_nil,and_true,true_and,and_self,imp_self,forall_const,false_implies,implies_true,true_implies,or_false,Bool.false_eq_true,Bool.true_eq_false,ImXs_nil,true_or,or_true,false_or,false_and,and_false,rmK,rm1]
 have hPr:=(place_range hv.sp.all hc.1).1
 have hP:=place_len sz c
 have hof:ofS sz gs c = if (gAt gs (placesL sz c)).any (fun g=>decide (g < 0)) = true then -1 else numL (gs.map gN) (gAt gs (placesL sz c)):=rfl
 obtain ⟨P,hPd⟩:∃ P,P = placesL sz c:=⟨_,rfl⟩
 have hPl:P.length = sz.length:=by rw [hPd,place_len]
 rw [← hPd] at hPr hof ⊢
 have hGl:(gAt gs P).length = sz.length:=by unfold gAt;rw [List.length_zipWith];omega
 refine sW ?_
 refine W_loopF mixm (α:=Nat) [9,21] (fun i=>i≤P.length∧(((gAt gs P).take i).any (fun g=>decide (g < 0)) = false)) (fun i=>[(9,vI (numL ((gs.map gN).take i) ((gAt gs P).take i))),(21,vI i)]) (fun i=>[(4100,.arr 1 [vwT gs] false)]) (fun i=>P.length - i) 0 ⟨by omega,?_⟩ ?_ fun i hi=>?_
 ·rfl
 ·refine .of [(4100,some 4100)] [] rfl (by first | rfl | (rw [hst];rfl)) ?_ ?_
  all_goals (try exact clA)
 simp only [tl,tl2,tl4,↓un_u,isCallR,entX,argFr,ret,retI,retB,intT,unT,endR,ressR,resR,tupT,bslR,boxR,lenAll,↓reduceIte,Nat.reduceEqDiff,Nat.reduceAdd,Nat.reduceMul,Nat.reduceLT,Nat.reduceLeDiff,reduceCtorEq,Int.reduceLE,Int.reduceLT,ne_eq,Int.reduceEq,not_false_eq_true,decide_true,decide_false,Int.reduceToNat,tl3,Int.reduceBNe,Int.reduceBEq,rmK,rm1,not_true_eq_false,decide_eq_true_eq,decide_eq_false_iff_not]
 refine ⟨fun h=>?_,fun h=>?_⟩
 ·have hi3:i < gs.length:=by omega
  have hi4:i < (gAt gs P).length:=by omega
  have hi5:i < (gs.map gN).length:=by omega
  have hr:=inR_get hPr (i:=i) (by omega) (by omega)
  have hsz:=(hv.get (i:=i) (by omega)).1
  have hgo:=hv.g hi3
  have hk:(P[i]'(by omega)).toNat < gs[i].length:=by omega
  have hgg:=gAt_get (gs:=gs) (at_:=P) hi3 (by omega)
  rw [getD_get hk] at hgg
  have hi2:i < P.length:=by omega
  have hwi:=i64_succ (i:=i) (by omega)
  simp only [tl,tl2,tl4,↓un_u,isCallR,entX,argFr,ret,retI,retB,intT,unT,endR,ressR,resR,tupT,bslR,boxR,lenAll,↓reduceIte,Nat.reduceEqDiff,Nat.reduceAdd,Nat.reduceMul,Nat.reduceLT,Nat.reduceLeDiff,reduceCtorEq,Int.reduceLE,Int.reduceLT,ne_eq,Int.reduceEq,not_false_eq_true,decide_true,decide_false,Int.reduceToNat,tl3,Int.reduceBNe,Int.reduceBEq,rmK,rm1,not_true_eq_false,Int.toNat_natCast,getD_mapT hi2,hwi,getD_mapT hi3,getD_mapT hk]
  rw [← hgg]
  simp only [decide_eq_true_eq,decide_eq_false_iff_not,Bool.or_eq_true,Bool.or_eq_false_iff,Bool.and_eq_true,Bool.and_eq_false_iff]
  refine ⟨by omega,by omega,by omega,fun h3=>?_,fun h3=>?_⟩
  ·have:((gAt gs P).any fun g=>decide (g < 0)) = true:=List.any_eq_true.2 ⟨_,List.getElem_mem hi4,by simpa using h3⟩
   rw [hof,if_pos this]
   refine .of [] [] rfl (by first | rfl | (rw [hst];rfl)) ?_ ?_
   all_goals (try exact clA)
  ·have hng:((gAt gs P).take (i + 1)).any (fun g=>decide (g < 0)) = false:=any_snoc hi4 hi.2 (by simpa using h3)
   have hin:=gAt_inR hvl hv.ok hPr (i + 1) hng
   have hst1:=num_step2 hv.gsz (by omega) hin hi5 hi4
   rw [List.getElem_map] at hst1
   have hm:=c_ref28_Groups gs[i] (fun x hx=>by have:=hgo.all x hx;have:=hgo.n;omega) (by have:=hgo.len;omega)
   refine ⟨by omega,C1.im hm rfl (by rfl) ?_⟩
   simp only [tl,tl2,tl4,↓un_u,isCallR,entX,argFr,ret,retI,retB,intT,unT,endR,ressR,resR,tupT,bslR,boxR,lenAll,↓reduceIte,Nat.reduceEqDiff,Nat.reduceAdd,Nat.reduceMul,Nat.reduceLT,Nat.reduceLeDiff,reduceCtorEq,Int.reduceLE,Int.reduceLT,ne_eq,Int.reduceEq,not_false_eq_true,decide_true,decide_false,Int.reduceToNat,tl3,Int.reduceBNe,Int.reduceBEq,rmK,rm1,not_true_eq_false,hst1]
   refine ⟨i + 1,⟨by omega,hng⟩,by omega,?_⟩
   refine .of [(4100,some 4100)] [] rfl (by first | rfl | (rw [hst];rfl)) ?_ ?_
   all_goals (try exact clA)
 ·have hi2:i = P.length:=by omega
  subst hi2
  have h3:=hi.2
  rw [List.take_of_length_le (by omega)] at h3
  rw [List.take_of_length_le (by omega),List.take_of_length_le (by omega)]
  rw [hof,if_neg (by rw [h3];simp)]
  refine .of [] [] rfl (by first | rfl | (rw [hst];rfl)) ?_ ?_
  all_goals (try exact clA)
end Go.Proofs
