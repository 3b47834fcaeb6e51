import Derived.Test.YtgdfndldfmjfhaaDoorG29
set_option linter.unusedSimpArgs false
set_option linter.unusedVariables false
namespace Go.Proofs
open Go Go.TL
theorem inR_take:∀ {sz at_:List Int} (i:Nat),inR sz at_→inR (sz.take i) (at_.take i)
 | [],[],i,_=>by simp [inR]
 | [],_ :: _,_,h=>h.elim
 | _ :: _,[],_,h=>h.elim
 | k :: r,a :: s,0,_=>by simp [inR]
 | k :: r,a :: s,i + 1,h=>⟨h.1,inR_take i h.2⟩
theorem inR_get:∀ {sz at_:List Int},inR sz at_→∀ {i:Nat} (h:i < sz.length) (h2:i < at_.length),0≤at_[i]∧at_[i] < sz[i]
 | [],_,_,i,h,_=>by simp at h
 | _ :: _,[],h,_,_,_=>h.elim
 | k :: r,a :: s,h,0,_,_=>h.1
 | k :: r,a :: s,h,i + 1,h1,h2=>inR_get h.2 (i:=i) (by simpa using h1) (by simpa using h2)
theorem all_take {p:Int→Bool} {l:List Int} (h:l.all p = true) (i:Nat):(l.take i).all p = true:=List.all_eq_true.2 fun x hx=>List.all_eq_true.1 h x (List.mem_of_mem_take hx)
theorem num_step {sz at_:List Int} {i:Nat} (ha:sz.all szOk = true) (hl:sz.length≤4) (hr:inR sz at_) (h:i < sz.length) (h2:i < at_.length) :
 IntKind.i64.wrap (IntKind.i64.wrap (numL (sz.take i) (at_.take i) * sz[i]) + at_[i]) = numL (sz.take (i + 1)) (at_.take (i + 1)):=by
 have hk:1≤sz[i]∧sz[i]≤8:=by simpa [szOk] using List.all_eq_true.1 ha sz[i] (List.getElem_mem h)
 have hg:=inR_get hr h h2
 obtain ⟨n1,n2⟩:=num_range (all_take ha i) (inR_take i hr)
 obtain ⟨n3,n4⟩:=num_range (all_take ha (i + 1)) (inR_take (i + 1) hr)
 obtain ⟨p1,p2⟩:=prod_small (all_take ha i) (by rw [List.length_take];omega)
 obtain ⟨p3,p4⟩:=prod_small (all_take ha (i + 1)) (by rw [List.length_take];omega)
 rw [num_snoc h h2] at n3 n4 ⊢
 have e1:0≤numL (sz.take i) (at_.take i) * sz[i]:=Int.mul_nonneg n1 (by omega)
 rw [IntWalk.i64_in (numL (sz.take i) (at_.take i) * sz[i]) (by omega),IntWalk.i64_in _ (by omega)]
theorem c_cells_number (sz at_:List Int) (ha:sz.all szOk = true) (hl:sz.length≤4) (hr:inR sz at_):Spc Tryd.prog F_cells_number [vIs sz,vIs at_] [] (vI (numL sz at_)) []:=by
 have hlen:=inR_len hr
 refine spec_of_ir fn_cells_number mixm (by simp) fun e _ hst=>W_start ?_
 unfold ir_cells_number
 refine sW ?_
 refine W_loopF mixm (α:=Nat) [5,10] (fun i=>i≤sz.length) (fun i=>[(5,vI (numL (sz.take i) (at_.take i))),(10,vI i)]) (fun i=>[]) (fun i=>sz.length - i) 0 (by omega) ?_ fun i hi=>?_
 ·refine .of [] [] rfl (by first | rfl | (rw [hst];rfl)) ?_ ?_
  all_goals (try exact clA)
 simp only [tl,tl2,tl4,↓un_u,isCallR,entX,argFr,ret,retI,retB,intT,unT,endR,ressR,resR,tupT,bslR,boxR,lenAll,↓reduceIte,Nat.reduceEqDiff,Nat.reduceAdd,Nat.reduceMul,Nat.reduceLT,Nat.reduceLeDiff,reduceCtorEq,Int.reduceLE,Int.reduceLT,ne_eq,Int.reduceEq,not_false_eq_true,decide_true,decide_false,Int.reduceToNat,tl3,Int.reduceBNe,Int.reduceBEq,rmK,rm1,not_true_eq_false,decide_eq_true_eq,decide_eq_false_iff_not]
 refine ⟨fun h=>?_,fun h=>?_⟩
 ·have hi3:i < at_.length:=by omega
  have hi2:i < sz.length:=by omega
  have hwi:=i64_succ (i:=i) (by omega)
  simp only [tl,tl2,tl4,↓un_u,isCallR,entX,argFr,ret,retI,retB,intT,unT,endR,ressR,resR,tupT,bslR,boxR,lenAll,↓reduceIte,Nat.reduceEqDiff,Nat.reduceAdd,Nat.reduceMul,Nat.reduceLT,Nat.reduceLeDiff,reduceCtorEq,Int.reduceLE,Int.reduceLT,ne_eq,Int.reduceEq,not_false_eq_true,decide_true,decide_false,Int.reduceToNat,tl3,Int.reduceBNe,Int.reduceBEq,rmK,rm1,not_true_eq_false,Int.toNat_natCast,getD_mapT hi2,hwi,getD_mapT hi3]
  rw [num_step ha hl hr hi2 hi3]
  refine ⟨by omega,by omega,i + 1,by omega,by omega,?_⟩
  refine .of [] [] rfl (by first | rfl | (rw [hst];rfl)) ?_ ?_
  all_goals (try exact clA)
 ·have hi2:i = sz.length:=by omega
  subst hi2
  rw [List.take_length,List.take_of_length_le (by omega)]
  exact .imR rfl rfl
theorem place_drop {sz:List Int} {n:Int} {j:Nat} (h:j < sz.length):placeS (sz.drop j) n = ((placeS (sz.drop (j + 1)) n).2 % sz[j] :: (placeS (sz.drop (j + 1)) n).1,(placeS (sz.drop (j + 1)) n).2 / sz[j]):=by
 rw [List.drop_eq_getElem_cons h]
 rfl
theorem place_nonneg {sz:List Int} {n:Int} (ha:sz.all szOk = true) (hn:0≤n) (j:Nat):0≤(placeS (sz.drop j) n).2:=by
 have ha2:(sz.drop j).all szOk = true:=List.all_eq_true.2 fun x hx=>List.all_eq_true.1 ha x (List.mem_of_mem_drop hx)
 obtain ⟨_,h2⟩:=place_range (n:=n) ha2 hn
 obtain ⟨p1,_⟩:=prod_le ha2
 rw [h2]
 exact Int.ediv_nonneg hn (by omega)
theorem place_up {sz:List Int} {n:Int} (ha:sz.all szOk = true) (hn:0≤n) (j:Nat):(placeS (sz.drop j) n).2≤n:=by
 have ha2:(sz.drop j).all szOk = true:=List.all_eq_true.2 fun x hx=>List.all_eq_true.1 ha x (List.mem_of_mem_drop hx)
 obtain ⟨_,h2⟩:=place_range (n:=n) ha2 hn
 obtain ⟨p1,_⟩:=prod_le ha2
 rw [h2]
 exact Int.ediv_le_self _ hn
def plO (sz:List Int) (n:Int) (j:Nat):List Int:=List.replicate j 0 ++ placesL (sz.drop j) n
theorem plO_len {sz:List Int} {n:Int} {j:Nat} (h:j≤sz.length):(plO sz n j).length = sz.length:=by
 unfold plO
 rw [List.length_append,List.length_replicate,place_len,List.length_drop]
 omega
theorem plO_set {sz:List Int} {n:Int} {j:Nat} (h:j < sz.length):(plO sz n (j + 1)).set j ((placeS (sz.drop (j + 1)) n).2 % sz[j]) = plO sz n j:=by
 unfold plO placesL
 rw [place_drop h,List.replicate_succ',List.append_assoc,List.set_append_right _ _ (by simp)]
 simp
theorem zeros (n:Nat):List.replicate n (T.v (Value.int IntKind.i64 0)) = (List.replicate n (0:Int)).map vI:=by simp
theorem c_cells_places (sz:List Int) (n:Int) (ha:sz.all szOk = true) (hl:sz.length≤4) (hn:0≤n∧n≤1000000):Spc Tryd.prog F_cells_places [vIs sz,vI n] [] (.asl 0 sz.length) [(0,.arr 1 ((placesL sz n).map vI) false)]:=by
 have hw:IntKind.i64.wrap ((sz.length:Int) - 1) = (sz.length:Int) - 1:=IntWalk.i64_in _ (by omega)
 refine spec_of_ir fn_cells_places mixm (by simp) fun e _ hst=>W_start ?_
 unfold ir_cells_places
 simp only [tl,tl2,tl4,↓un_u,isCallR,entX,argFr,ret,retI,retB,intT,unT,endR,ressR,resR,tupT,bslR,boxR,lenAll,↓reduceIte,Nat.reduceEqDiff,Nat.reduceAdd,Nat.reduceMul,Nat.reduceLT,Nat.reduceLeDiff,reduceCtorEq,Int.reduceLE,Int.reduceLT,ne_eq,Int.reduceEq,not_false_eq_true,decide_true,decide_false,Int.reduceToNat,tl3,Int.reduceBNe,Int.reduceBEq,rmK,rm1,not_true_eq_false,hw]
 refine ⟨by omega,?_⟩
 refine W_loopF mixm (α:=Nat) [1,6] (fun j=>j≤sz.length) (fun j=>[(1,vI (placeS (sz.drop j) n).2),(6,vI ((j:Int) - 1))]) (fun j=>[(8200,.arr 1 ((plO sz n j).map vI) false)]) (fun j=>j) sz.length (by omega) ?_ fun j hj=>?_
 ·have e1:plO sz n sz.length = List.replicate sz.length 0:=by
   unfold plO placesL
   rw [List.drop_length]
   simp [placeS]
  have e2:(placeS (sz.drop sz.length) n).2 = n:=by rw [List.drop_length];rfl
  rw [e1,e2]
  refine .of [(8200,some 8200)] [] rfl (by first | rfl | (rw [hst];rfl)) ?_ ?_
  all_goals (try simp only [ltSto,ltO2,ltO1,ltAs,ltA,ltC,ltC0,ltC0s,ltCs,ltT,ltFr,ltS,wrOk,wrO,TL.get,hasFr,↓reduceIte,Nat.reduceEqDiff,reduceCtorEq,Option.getD_some,Option.isSome_some,List.length_map,List.length_append,List.length_cons,List.length_nil,List.append_nil,List.mem_singleton,List.mem_cons,List.not_mem_nil,and_true,true_and,and_self,imp_self,forall_const,false_implies,implies_true,true_implies,or_false,Bool.false_eq_true,Bool.true_eq_false,ImXs_nil,true_or,or_true,false_or,false_and,and_false,rmK,rm1,List.map_append,List.map_cons,List.map_nil,List.cons_append,List.nil_append,Int.toNat_natCast,zeros])
  all_goals (try (repeat' (first | exact ltXs_nil | (apply ltXs_map;intro _;exact ⟨rfl,rfl⟩) | (apply imXs_map;intro _;exact ⟨rfl,rfl⟩) | with_reducible apply imXs_append | with_reducible refine imXs_cons ⟨rfl,rfl⟩ ?_ | exact imXs_nil | with_reducible apply ltXs_append | with_reducible refine ltXs_cons ⟨rfl,rfl,?_⟩ ?_ | with_reducible apply And.intro | exact ltCs_im rfl | exact ltCs_im (by assumption) | (refine ⟨⟨?_,rfl,?_,rfl,?_⟩,trivial⟩ <;> first | (simp;done) | (apply imXs_map;intro _;exact ⟨rfl,rfl⟩)) | trivial | rfl | (rw [i64_succ (by omega)]) | omega)))
 simp only [tl,tl2,tl4,↓un_u,isCallR,entX,argFr,ret,retI,retB,intT,unT,endR,ressR,resR,tupT,bslR,boxR,lenAll,↓reduceIte,Nat.reduceEqDiff,Nat.reduceAdd,Nat.reduceMul,Nat.reduceLT,Nat.reduceLeDiff,reduceCtorEq,Int.reduceLE,Int.reduceLT,ne_eq,Int.reduceEq,not_false_eq_true,decide_true,decide_false,Int.reduceToNat,tl3,Int.reduceBNe,Int.reduceBEq,rmK,rm1,not_true_eq_false,decide_eq_true_eq,decide_eq_false_iff_not]
 refine ⟨fun h=>?_,fun h=>?_⟩
 ·obtain ⟨j,rfl⟩:∃ c,j = c + 1:=⟨j - 1,by omega⟩
  have hj2:j < sz.length:=by omega
  have hk:1≤sz[j]∧sz[j]≤8:=by simpa [szOk] using List.all_eq_true.1 ha sz[j] (List.getElem_mem hj2)
  have hj1:(((j + 1:Nat):Int) - 1) = (j:Int):=by omega
  have hw2:IntKind.i64.wrap ((j:Int) - 1) = (j:Int) - 1:=IntWalk.i64_in _ (by omega)
  have hn0:=place_nonneg (n:=n) ha hn.1 (j + 1)
  have hn1:=place_up (n:=n) ha hn.1 (j + 1)
  have hq:0≤(placeS (sz.drop (j + 1)) n).2 / sz[j]∧(placeS (sz.drop (j + 1)) n).2 / sz[j]≤n:=⟨Int.ediv_nonneg hn0 (by omega),Int.le_trans (Int.ediv_le_self _ hn0) hn1⟩
  have hw3:IntKind.i64.wrap ((placeS (sz.drop (j + 1)) n).2 / sz[j]) = (placeS (sz.drop (j + 1)) n).2 / sz[j]:=IntWalk.i64_in _ (by omega)
  simp only [hj1]
  simp only [tl,tl2,tl4,↓un_u,isCallR,entX,argFr,ret,retI,retB,intT,unT,endR,ressR,resR,tupT,bslR,boxR,lenAll,↓reduceIte,Nat.reduceEqDiff,Nat.reduceAdd,Nat.reduceMul,Nat.reduceLT,Nat.reduceLeDiff,reduceCtorEq,Int.reduceLE,Int.reduceLT,ne_eq,Int.reduceEq,not_false_eq_true,decide_true,decide_false,Int.reduceToNat,tl3,Int.reduceBNe,Int.reduceBEq,rmK,rm1,not_true_eq_false,Int.toNat_natCast,getD_mapT hj2,Int.tmod_eq_emod_of_nonneg hn0,Int.tdiv_eq_ediv_of_nonneg hn0,hw2,hw3]
  have hpl:=plO_len (sz:=sz) (n:=n) (j:=j + 1) (by omega)
  have hj3:j < (plO sz n (j + 1)).length:=by omega
  simp only [getD_mapT hj3,show ∀ a b:Int,repl (vI a) 0 (vI b) = vI b from fun _ _=>rfl]
  rw [← List.map_set,plO_set hj2]
  refine ⟨by omega,by omega,by omega,⟨by omega,by omega,rfl⟩,by omega,by omega,j,by omega,by omega,?_⟩
  rw [place_drop hj2]
  refine .of [(8200,some 8200)] [] rfl (by first | rfl | (rw [hst];rfl)) ?_ ?_
  all_goals (try exact clA)
 ·have:j = 0:=by omega
  subst this
  have e1:plO sz n 0 = placesL sz n:=by simp [plO,List.replicate_zero]
  rw [e1]
  refine .of [(0,some 8200)] [] rfl (by first | rfl | (rw [hst];rfl)) ?_ ?_
  all_goals (try simp only [ltSto,ltO2,ltO1,ltAs,ltA,ltC,ltC0,ltC0s,ltCs,ltT,ltFr,ltS,wrOk,wrO,TL.get,hasFr,↓reduceIte,Nat.reduceEqDiff,reduceCtorEq,Option.getD_some,Option.isSome_some,List.length_map,List.length_append,List.length_cons,List.length_nil,List.append_nil,List.mem_singleton,List.mem_cons,List.not_mem_nil,and_true,true_and,and_self,imp_self,forall_const,false_implies,implies_true,true_implies,or_false,Bool.false_eq_true,Bool.true_eq_false,ImXs_nil,true_or,or_true,false_or,false_and,and_false,rmK,rm1,List.map_append,List.map_cons,List.map_nil,List.cons_append,List.nil_append,Int.toNat_natCast])
  all_goals (try (repeat' (first | exact ltXs_nil | (apply ltXs_map;intro _;exact ⟨rfl,rfl⟩) | (apply imXs_map;intro _;exact ⟨rfl,rfl⟩) | with_reducible apply imXs_append | with_reducible refine imXs_cons ⟨rfl,rfl⟩ ?_ | exact imXs_nil | with_reducible apply ltXs_append | with_reducible refine ltXs_cons ⟨rfl,rfl,?_⟩ ?_ | with_reducible apply And.intro | exact ltCs_im rfl | exact ltCs_im (by assumption) | (refine ⟨⟨?_,rfl,?_,rfl,?_⟩,trivial⟩ <;> first | (simp;done) | (apply imXs_map;intro _;exact ⟨rfl,rfl⟩)) | trivial | rfl | (rw [i64_succ (by omega)]) | omega)))
theorem place_take_len (sz:List Int) (n:Int):(placesL sz n).length = sz.length:=place_len sz n
theorem c_ref28_At (sz:List Int) (c:Int) (h:SpOk sz) (hc:0≤c∧c < prodI sz):Spc Tryd.prog F_ref28_At [spT sz,vI c] [] (.tup [vIs (placesL sz c),vI 0]) []:=by
 have hl:=h.len
 have hp:=h.prod
 have ha:=h.all
 have h0:=chkS_ok.2 h
 have hct:cntS sz = prodI sz:=by rw [cntS,if_pos h0]
 have hw:IntKind.i64.wrap ((sz.length:Int) - 1) = (sz.length:Int) - 1:=IntWalk.i64_in _ (by omega)
 refine spec_of_ir fn_ref28_At mixm (by simp) fun e _ hst=>W_start ?_
 unfold ir_ref28_At
 refine sW ?_
 refine C1.shut [] (c_ref28_Check sz (by omega)) ?_ (by rfl) rfl ?_
 ·simp only [ltSto,ltO2,ltO1,ltAs,ltA,ltC,ltC0,ltC0s,ltCs,ltT,ltFr,ltS,wrOk,wrO,TL.get,hasFr,↓reduceIte,Nat.reduceEqDiff,reduceCtorEq,Option.getD_some,Option.isSome_some,List.length_map,List.length_append,List.length_cons,List.length_nil,List.append_nil,List.mem_singleton,List.mem_cons,List.not_mem_nil,and_true,true_and,and_self,imp_self,forall_const,false_implies,implies_true,true_implies,or_false,Bool.false_eq_true,Bool.true_eq_false,ImXs_nil,true_or,or_true,false_or,false_and,and_false,rmK,rm1]
 have d1:decide (c < 0) = false:=by simp;omega
 simp only [tl,tl2,tl4,↓un_u,isCallR,entX,argFr,ret,retI,retB,intT,unT,endR,ressR,resR,tupT,bslR,boxR,lenAll,↓reduceIte,Nat.reduceEqDiff,Nat.reduceAdd,Nat.reduceMul,Nat.reduceLT,Nat.reduceLeDiff,reduceCtorEq,Int.reduceLE,Int.reduceLT,ne_eq,Int.reduceEq,not_false_eq_true,decide_true,decide_false,Int.reduceToNat,tl3,Int.reduceBNe,Int.reduceBEq,rmK,rm1,not_true_eq_false,h0,bne_self_eq_false,d1]
 refine C2.one (by first | trivial | rfl) (C1.im (c_ref28_Count sz (by omega)) rfl (by rfl) ?_)
 have d2:decide (c≥prodI sz) = false:=by simp;omega
 have hcn:decide ((prodI sz)≤c) = false:=by simp;omega
 simp only [tl,tl2,tl4,↓un_u,isCallR,entX,argFr,ret,retI,retB,intT,unT,endR,ressR,resR,tupT,bslR,boxR,lenAll,↓reduceIte,Nat.reduceEqDiff,Nat.reduceAdd,Nat.reduceMul,Nat.reduceLT,Nat.reduceLeDiff,reduceCtorEq,Int.reduceLE,Int.reduceLT,ne_eq,Int.reduceEq,not_false_eq_true,decide_true,decide_false,Int.reduceToNat,tl3,Int.reduceBNe,Int.reduceBEq,rmK,rm1,not_true_eq_false,hct,d1,d2,hcn,hw]
 refine ⟨by omega,?_⟩
 have hn:0≤c∧c≤1000000:=by omega
 refine W_loopF mixm (α:=Nat) [1,8] (fun j=>j≤sz.length) (fun j=>[(1,vI (placeS (sz.drop j) c).2),(8,vI ((j:Int) - 1))]) (fun j=>[(4096,.arr 1 [spT sz] false),(28684,.arr 1 ((plO sz c j).map vI) false)]) (fun j=>j) sz.length (by omega) ?_ fun j hj=>?_
 ·have e1:plO sz c sz.length = List.replicate sz.length 0:=by
   unfold plO placesL
   rw [List.drop_length]
   simp [placeS]
  have e2:(placeS (sz.drop sz.length) c).2 = c:=by rw [List.drop_length];rfl
  rw [e1,e2]
  refine .of [(4096,some 4096),(28684,some 28684)] [] rfl (by first | rfl | (rw [hst];rfl)) ?_ ?_
  all_goals (try simp only [ltSto,ltO2,ltO1,ltAs,ltA,ltC,ltC0,ltC0s,ltCs,ltT,ltFr,ltS,wrOk,wrO,TL.get,hasFr,↓reduceIte,Nat.reduceEqDiff,reduceCtorEq,Option.getD_some,Option.isSome_some,List.length_map,List.length_append,List.length_cons,List.length_nil,List.append_nil,List.mem_singleton,List.mem_cons,List.not_mem_nil,and_true,true_and,and_self,imp_self,forall_const,false_implies,implies_true,true_implies,or_false,Bool.false_eq_true,Bool.true_eq_false,ImXs_nil,true_or,or_true,false_or,false_and,and_false,rmK,rm1,List.map_append,List.map_cons,List.map_nil,List.cons_append,List.nil_append,Int.toNat_natCast,zeros])
  all_goals (try (repeat' (first | exact ltXs_nil | (apply ltXs_map;intro _;exact ⟨rfl,rfl⟩) | (apply imXs_map;intro _;exact ⟨rfl,rfl⟩) | with_reducible apply imXs_append | with_reducible refine imXs_cons ⟨rfl,rfl⟩ ?_ | exact imXs_nil | with_reducible apply ltXs_append | with_reducible refine ltXs_cons ⟨rfl,rfl,?_⟩ ?_ | with_reducible apply And.intro | exact ltCs_im rfl | exact ltCs_im (by assumption) | (refine ⟨⟨?_,rfl,?_,rfl,?_⟩,trivial⟩ <;> first | (simp;done) | (apply imXs_map;intro _;exact ⟨rfl,rfl⟩)) | trivial | rfl | (rw [i64_succ (by omega)]) | omega)))
 simp only [tl,tl2,tl4,↓un_u,isCallR,entX,argFr,ret,retI,retB,intT,unT,endR,ressR,resR,tupT,bslR,boxR,lenAll,↓reduceIte,Nat.reduceEqDiff,Nat.reduceAdd,Nat.reduceMul,Nat.reduceLT,Nat.reduceLeDiff,reduceCtorEq,Int.reduceLE,Int.reduceLT,ne_eq,Int.reduceEq,not_false_eq_true,decide_true,decide_false,Int.reduceToNat,tl3,Int.reduceBNe,Int.reduceBEq,rmK,rm1,not_true_eq_false,decide_eq_true_eq,decide_eq_false_iff_not]
 refine ⟨fun h=>?_,fun h=>?_⟩
 ·obtain ⟨j,rfl⟩:∃ c,j = c + 1:=⟨j - 1,by omega⟩
  have hj2:j < sz.length:=by omega
  have hk:1≤sz[j]∧sz[j]≤8:=by simpa [szOk] using List.all_eq_true.1 ha sz[j] (List.getElem_mem hj2)
  have hj1:(((j + 1:Nat):Int) - 1) = (j:Int):=by omega
  have hw2:IntKind.i64.wrap ((j:Int) - 1) = (j:Int) - 1:=IntWalk.i64_in _ (by omega)
  have hn0:=place_nonneg (n:=c) ha hn.1 (j + 1)
  have hn1:=place_up (n:=c) ha hn.1 (j + 1)
  have hq:0≤(placeS (sz.drop (j + 1)) c).2 / sz[j]∧(placeS (sz.drop (j + 1)) c).2 / sz[j]≤c:=⟨Int.ediv_nonneg hn0 (by omega),Int.le_trans (Int.ediv_le_self _ hn0) hn1⟩
  have hw3:IntKind.i64.wrap ((placeS (sz.drop (j + 1)) c).2 / sz[j]) = (placeS (sz.drop (j + 1)) c).2 / sz[j]:=IntWalk.i64_in _ (by omega)
  simp only [hj1]
  simp only [tl,tl2,tl4,↓un_u,isCallR,entX,argFr,ret,retI,retB,intT,unT,endR,ressR,resR,tupT,bslR,boxR,lenAll,↓reduceIte,Nat.reduceEqDiff,Nat.reduceAdd,Nat.reduceMul,Nat.reduceLT,Nat.reduceLeDiff,reduceCtorEq,Int.reduceLE,Int.reduceLT,ne_eq,Int.reduceEq,not_false_eq_true,decide_true,decide_false,Int.reduceToNat,tl3,Int.reduceBNe,Int.reduceBEq,rmK,rm1,not_true_eq_false,Int.toNat_natCast,getD_mapT hj2,Int.tmod_eq_emod_of_nonneg hn0,Int.tdiv_eq_ediv_of_nonneg hn0,hw2,hw3]
  have hpl:=plO_len (sz:=sz) (n:=c) (j:=j + 1) (by omega)
  have hj3:j < (plO sz c (j + 1)).length:=by omega
  simp only [getD_mapT hj3,show ∀ a b:Int,repl (vI a) 0 (vI b) = vI b from fun _ _=>rfl]
  rw [← List.map_set,plO_set hj2]
  refine ⟨by omega,by omega,by omega,⟨by omega,by omega,rfl⟩,by omega,by omega,j,by omega,by omega,?_⟩
  rw [place_drop hj2]
  refine .of [(4096,some 4096),(28684,some 28684)] [] rfl (by first | rfl | (rw [hst];rfl)) ?_ ?_
  all_goals (try exact clA)
 ·have:j = 0:=by omega
  subst this
  have e1:plO sz c 0 = placesL sz c:=by simp [plO,List.replicate_zero]
  rw [e1]
  refine .of [] [28684] rfl (by first | rfl | (rw [hst];rfl)) ?_ ?_
  all_goals (try simp only [ltSto,ltO2,ltO1,ltAs,ltA,ltC,ltC0,ltC0s,ltCs,ltT,ltFr,ltS,wrOk,wrO,TL.get,hasFr,↓reduceIte,Nat.reduceEqDiff,reduceCtorEq,Option.getD_some,Option.isSome_some,List.length_map,List.length_append,List.length_cons,List.length_nil,List.append_nil,List.mem_singleton,List.mem_cons,List.not_mem_nil,and_true,true_and,and_self,imp_self,forall_const,false_implies,implies_true,true_implies,or_false,Bool.false_eq_true,Bool.true_eq_false,ImXs_nil,true_or,or_true,false_or,false_and,and_false,rmK,rm1,List.map_append,List.map_cons,List.map_nil,List.cons_append,List.nil_append,Int.toNat_natCast])
  all_goals (try (repeat' (first | exact ltXs_nil | (apply ltXs_map;intro _;exact ⟨rfl,rfl⟩) | (apply imXs_map;intro _;exact ⟨rfl,rfl⟩) | with_reducible apply imXs_append | with_reducible refine imXs_cons ⟨rfl,rfl⟩ ?_ | exact imXs_nil | with_reducible apply ltXs_append | with_reducible refine ltXs_cons ⟨rfl,rfl,?_⟩ ?_ | with_reducible apply And.intro | exact ltCs_im rfl | exact ltCs_im (by assumption) | (refine ⟨⟨?_,rfl,?_,rfl,?_⟩,trivial⟩ <;> first | (simp;done) | (apply imXs_map;intro _;exact ⟨rfl,rfl⟩)) | trivial | rfl | (rw [i64_succ (by omega)]) | omega)))
  exact place_len _ _
end Go.Proofs
