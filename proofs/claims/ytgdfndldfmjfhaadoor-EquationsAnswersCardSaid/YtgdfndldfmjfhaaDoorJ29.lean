import Derived.Test.YtgdfndldfmjfhaaDoorI29
set_option linter.unusedSimpArgs false
set_option linter.unusedVariables false
namespace Go.Proofs
open Go Go.TL
structure GOk (g:List Int):Prop where
 len:0 < g.length∧g.length≤8
 n:0 < gN g∧gN g≤8
 all:∀ x∈g,-1≤x∧x < gN g
 max:1 + maxF g = gN g
theorem VwOk.g {sz:List Int} {gs:List (List Int)} (h:VwOk sz gs) {i:Nat} (hi:i < gs.length):GOk gs[i]:=by
 have hi2:i < sz.length:=by rw [← h.len];exact hi
 obtain ⟨h1,h2,h3⟩:=h.get hi2
 have h4:=h.sp.get hi2
 have h5:=h3.pos
 refine ⟨by omega,⟨h2,by omega⟩,h3.all,?_⟩
 have h6:=gN_max (l:=gs[i]) (by omega)
 rw [h6] at h2 ⊢
 unfold maxI at h2 ⊢
 split at h2 <;> split <;> omega
theorem c_cells_sizes {sz:List Int} {gs:List (List Int)} (hv:VwOk sz gs):Spc Tryd.prog F_cells_sizes [vwT gs] [] (vIs (gs.map gN)) []:=by
 have hl:=hv.len
 have hs:=hv.sp.len
 refine spec_of_ir fn_cells_sizes mixm (by simp) fun e _ hst=>W_start ?_
 unfold ir_cells_sizes
 refine sW ?_
 refine W_loopF mixm (α:=Nat) [3,9] (fun i=>i≤gs.length) (fun i=>[(3,.asl 1 ((gs.take i).map gN).length),(9,vI i)]) (fun i=>[(1,.arr 1 (((gs.take i).map gN).map vI) false)]) (fun i=>gs.length - i) 0 (by omega) ?_ fun i hi=>?_
 ·refine .of [(1,none)] [] rfl (by first | rfl | (rw [hst];rfl)) ?_ ?_
  all_goals (try exact clA)
 simp only [tl,tl2,tl4,↓un_u,isCallR,entX,argFr,ret,retI,retB,intT,unT,endR,ressR,resR,tupT,bslR,boxR,lenAll,↓reduceIte,Nat.reduceEqDiff,Nat.reduceAdd,Nat.reduceMul,Nat.reduceLT,Nat.reduceLeDiff,reduceCtorEq,Int.reduceLE,Int.reduceLT,ne_eq,Int.reduceEq,not_false_eq_true,decide_true,decide_false,Int.reduceToNat,tl3,Int.reduceBNe,Int.reduceBEq,rmK,rm1,not_true_eq_false,decide_eq_true_eq,decide_eq_false_iff_not]
 refine ⟨fun h=>?_,fun h=>?_⟩
 ·have hg:=hv.g (i:=i) (by omega)
  have hi2:i < gs.length:=by omega
  have hwi:=i64_succ (i:=i) (by omega)
  simp only [tl,tl2,tl4,↓un_u,isCallR,entX,argFr,ret,retI,retB,intT,unT,endR,ressR,resR,tupT,bslR,boxR,lenAll,↓reduceIte,Nat.reduceEqDiff,Nat.reduceAdd,Nat.reduceMul,Nat.reduceLT,Nat.reduceLeDiff,reduceCtorEq,Int.reduceLE,Int.reduceLT,ne_eq,Int.reduceEq,not_false_eq_true,decide_true,decide_false,Int.reduceToNat,tl3,Int.reduceBNe,Int.reduceBEq,rmK,rm1,not_true_eq_false,Int.toNat_natCast,getD_mapT hi2,hwi]
  have hm:=c_slices_Max_int gs[i] hg.len.1 (by have:=hg.len;omega)
  refine ⟨by omega,C1.im hm rfl (by rfl) ?_⟩
  have hw:IntKind.i64.wrap (1 + maxF gs[i]) = gN gs[i]:=by
   have:=hg.n
   rw [hg.max,IntWalk.i64_in _ (by omega)]
  have hgl:(gs.take i).length = i:=by rw [List.length_take];omega
  simp only [tl,tl2,tl4,↓un_u,isCallR,entX,argFr,ret,retI,retB,intT,unT,endR,ressR,resR,tupT,bslR,boxR,lenAll,↓reduceIte,Nat.reduceEqDiff,Nat.reduceAdd,Nat.reduceMul,Nat.reduceLT,Nat.reduceLeDiff,reduceCtorEq,Int.reduceLE,Int.reduceLT,ne_eq,Int.reduceEq,not_false_eq_true,decide_true,decide_false,Int.reduceToNat,tl3,Int.reduceBNe,Int.reduceBEq,rmK,rm1,not_true_eq_false,hw,hgl,List.length_map]
  refine ⟨by omega,i + 1,by omega,by omega,?_⟩
  rw [take_snoc hi2]
  refine .of [(1,some 1)] [] rfl (by first | rfl | (rw [hst];rfl)) ?_ ?_
  all_goals (try simp only [ltSto,ltO2,ltO1,ltAs,ltA,ltC,ltC0,ltC0s,ltCs,ltT,ltFr,ltS,wrOk,wrO,TL.get,hasFr,↓reduceIte,Nat.reduceEqDiff,reduceCtorEq,Option.getD_some,Option.isSome_some,List.length_map,List.length_append,List.length_cons,List.length_nil,List.append_nil,List.mem_singleton,List.mem_cons,List.not_mem_nil,and_true,true_and,and_self,imp_self,forall_const,false_implies,implies_true,true_implies,or_false,Bool.false_eq_true,Bool.true_eq_false,ImXs_nil,true_or,or_true,false_or,false_and,and_false,rmK,rm1,List.map_append,List.map_cons,List.map_nil,List.cons_append,List.nil_append,List.length_map,List.length_append,List.length_take,List.length_cons,List.length_nil,Nat.min_eq_left (Nat.le_of_lt hi2)])
  all_goals (try (repeat' (first | exact ltXs_nil | (apply ltXs_map;intro _;exact ⟨rfl,rfl⟩) | (apply imXs_map;intro _;exact ⟨rfl,rfl⟩) | with_reducible apply imXs_append | with_reducible refine imXs_cons ⟨rfl,rfl⟩ ?_ | exact imXs_nil | with_reducible apply ltXs_append | with_reducible refine ltXs_cons ⟨rfl,rfl,?_⟩ ?_ | with_reducible apply And.intro | exact ltCs_im rfl | exact ltCs_im (by assumption) | (refine ⟨⟨?_,rfl,?_,rfl,?_⟩,trivial⟩ <;> first | (simp;done) | (apply imXs_map;intro _;exact ⟨rfl,rfl⟩)) | trivial | rfl | (rw [i64_succ (by omega)]) | omega)))
 ·have hi2:i = gs.length:=by omega
  subst hi2
  rw [List.take_length]
  refine .of [] [1] rfl (by first | rfl | (rw [hst];rfl)) ?_ ?_
  all_goals (try simp only [ltSto,ltO2,ltO1,ltAs,ltA,ltC,ltC0,ltC0s,ltCs,ltT,ltFr,ltS,wrOk,wrO,TL.get,hasFr,↓reduceIte,Nat.reduceEqDiff,reduceCtorEq,Option.getD_some,Option.isSome_some,List.length_map,List.length_append,List.length_cons,List.length_nil,List.append_nil,List.mem_singleton,List.mem_cons,List.not_mem_nil,and_true,true_and,and_self,imp_self,forall_const,false_implies,implies_true,true_implies,or_false,Bool.false_eq_true,Bool.true_eq_false,ImXs_nil,true_or,or_true,false_or,false_and,and_false,rmK,rm1,List.map_append,List.map_cons,List.map_nil,List.cons_append,List.nil_append,List.length_map])
  all_goals (try (repeat' (first | exact ltXs_nil | (apply ltXs_map;intro _;exact ⟨rfl,rfl⟩) | (apply imXs_map;intro _;exact ⟨rfl,rfl⟩) | with_reducible apply imXs_append | with_reducible refine imXs_cons ⟨rfl,rfl⟩ ?_ | exact imXs_nil | with_reducible apply ltXs_append | with_reducible refine ltXs_cons ⟨rfl,rfl,?_⟩ ?_ | with_reducible apply And.intro | exact ltCs_im rfl | exact ltCs_im (by assumption) | (refine ⟨⟨?_,rfl,?_,rfl,?_⟩,trivial⟩ <;> first | (simp;done) | (apply imXs_map;intro _;exact ⟨rfl,rfl⟩)) | trivial | rfl | (rw [i64_succ (by omega)]) | omega)))
theorem c_cells_Published (sz:List Int) (gs:List (List Int)) (hl:sz.length < 4611686018427387904) (hg:gs.length < 4611686018427387904) (hgl:∀ g∈gs,g.length < 1000000):Spc Tryd.prog F_cells_Published [spT sz,vwT gs] [] (vI (published sz gs)) []:=by
 refine spec_of_ir fn_cells_Published mixm (by simp) fun e _ hst=>W_start ?_
 unfold ir_cells_Published
 refine sW ?_
 refine C1.shut [] (c_cells_View sz gs hl hg hgl) ?_ (by rfl) rfl ?_
 ·simp only [ltSto,ltO2,ltO1,ltAs,ltA,ltC,ltC0,ltC0s,ltCs,ltT,ltFr,ltS,wrOk,wrO,TL.get,hasFr,↓reduceIte,Nat.reduceEqDiff,reduceCtorEq,Option.getD_some,Option.isSome_some,List.length_map,List.length_append,List.length_cons,List.length_nil,List.append_nil,List.mem_singleton,List.mem_cons,List.not_mem_nil,and_true,true_and,and_self,imp_self,forall_const,false_implies,implies_true,true_implies,or_false,Bool.false_eq_true,Bool.true_eq_false,ImXs_nil,true_or,or_true,false_or,false_and,and_false,rmK,rm1]
 simp only [tl,tl2,tl4,↓un_u,isCallR,entX,argFr,ret,retI,retB,intT,unT,endR,ressR,resR,tupT,bslR,boxR,lenAll,↓reduceIte,Nat.reduceEqDiff,Nat.reduceAdd,Nat.reduceMul,Nat.reduceLT,Nat.reduceLeDiff,reduceCtorEq,Int.reduceLE,Int.reduceLT,ne_eq,Int.reduceEq,not_false_eq_true,decide_true,decide_false,Int.reduceToNat,tl3,Int.reduceBNe,Int.reduceBEq,rmK,rm1,not_true_eq_false,bne_iff_ne,bne_eq_false_iff_eq]
 refine ⟨fun h=>?_,fun h=>?_⟩
 ·rw [published,if_neg h]
  exact .imR rfl rfl
 have hv:=viewE_ok.1 h
 rw [published,if_pos h]
 refine C1.shut [] (c_cells_sizes hv) ?_ (by rfl) rfl ?_
 ·simp only [ltSto,ltO2,ltO1,ltAs,ltA,ltC,ltC0,ltC0s,ltCs,ltT,ltFr,ltS,wrOk,wrO,TL.get,hasFr,↓reduceIte,Nat.reduceEqDiff,reduceCtorEq,Option.getD_some,Option.isSome_some,List.length_map,List.length_append,List.length_cons,List.length_nil,List.append_nil,List.mem_singleton,List.mem_cons,List.not_mem_nil,and_true,true_and,and_self,imp_self,forall_const,false_implies,implies_true,true_implies,or_false,Bool.false_eq_true,Bool.true_eq_false,ImXs_nil,true_or,or_true,false_or,false_and,and_false,rmK,rm1]
 refine sW ?_
 refine C1.im (c_cells_product (gs.map gN) hv.gsz (by have:=hv.len;have:=hv.sp.len;rw [List.length_map];omega)) rfl (by rfl) ?_
 refine sW ?_
 exact .imR rfl rfl
theorem c_ref28_Published (sz:List Int) (gs:List (List Int)) (hl:sz.length < 4611686018427387904) (hg:gs.length < 4611686018427387904) (hgl:∀ g∈gs,g.length < 1000000):Spc Tryd.prog F_ref28_Published [spT sz,vwT gs] [] (vI (published sz gs)) []:=by
 refine spec_of_ir fn_ref28_Published mixm (by simp) fun e _ hst=>W_start ?_
 unfold ir_ref28_Published
 refine sW ?_
 refine C1.shut [] (c_ref28_View sz gs hl hg hgl) ?_ (by rfl) rfl ?_
 ·simp only [ltSto,ltO2,ltO1,ltAs,ltA,ltC,ltC0,ltC0s,ltCs,ltT,ltFr,ltS,wrOk,wrO,TL.get,hasFr,↓reduceIte,Nat.reduceEqDiff,reduceCtorEq,Option.getD_some,Option.isSome_some,List.length_map,List.length_append,List.length_cons,List.length_nil,List.append_nil,List.mem_singleton,List.mem_cons,List.not_mem_nil,and_true,true_and,and_self,imp_self,forall_const,false_implies,implies_true,true_implies,or_false,Bool.false_eq_true,Bool.true_eq_false,ImXs_nil,true_or,or_true,false_or,false_and,and_false,rmK,rm1]
 simp only [tl,tl2,tl4,↓un_u,isCallR,entX,argFr,ret,retI,retB,intT,unT,endR,ressR,resR,tupT,bslR,boxR,lenAll,↓reduceIte,Nat.reduceEqDiff,Nat.reduceAdd,Nat.reduceMul,Nat.reduceLT,Nat.reduceLeDiff,reduceCtorEq,Int.reduceLE,Int.reduceLT,ne_eq,Int.reduceEq,not_false_eq_true,decide_true,decide_false,Int.reduceToNat,tl3,Int.reduceBNe,Int.reduceBEq,rmK,rm1,not_true_eq_false,bne_iff_ne,bne_eq_false_iff_eq]
 refine ⟨fun h=>?_,fun h=>?_⟩
 ·rw [published,if_neg h]
  exact .imR rfl rfl
 have hv:=viewE_ok.1 h
 have hvl:=hv.len
 have hvs:=hv.sp.len
 rw [published,if_pos h]
 have hpl:((gs.map gN).length:Nat) = gs.length:=List.length_map _
 refine W_loopF mixm (α:=Nat) [5,15] (fun i=>i≤gs.length) (fun i=>[(5,vI (prodI ((gs.map gN).take i))),(15,vI i)]) (fun i=>[]) (fun i=>gs.length - i) 0 (by omega) ?_ fun i hi=>?_
 ·refine .of [] [] rfl (by first | rfl | (rw [hst];rfl)) ?_ ?_
  all_goals (try exact clA)
 simp only [tl,tl2,tl4,↓un_u,isCallR,entX,argFr,ret,retI,retB,intT,unT,endR,ressR,resR,tupT,bslR,boxR,lenAll,↓reduceIte,Nat.reduceEqDiff,Nat.reduceAdd,Nat.reduceMul,Nat.reduceLT,Nat.reduceLeDiff,reduceCtorEq,Int.reduceLE,Int.reduceLT,ne_eq,Int.reduceEq,not_false_eq_true,decide_true,decide_false,Int.reduceToNat,tl3,Int.reduceBNe,Int.reduceBEq,rmK,rm1,not_true_eq_false,decide_eq_true_eq,decide_eq_false_iff_not]
 refine ⟨fun h=>?_,fun h=>?_⟩
 ·have hgo:=hv.g (i:=i) (by omega)
  have hi2:i < gs.length:=by omega
  have hwi:=i64_succ (i:=i) (by omega)
  simp only [tl,tl2,tl4,↓un_u,isCallR,entX,argFr,ret,retI,retB,intT,unT,endR,ressR,resR,tupT,bslR,boxR,lenAll,↓reduceIte,Nat.reduceEqDiff,Nat.reduceAdd,Nat.reduceMul,Nat.reduceLT,Nat.reduceLeDiff,reduceCtorEq,Int.reduceLE,Int.reduceLT,ne_eq,Int.reduceEq,not_false_eq_true,decide_true,decide_false,Int.reduceToNat,tl3,Int.reduceBNe,Int.reduceBEq,rmK,rm1,not_true_eq_false,Int.toNat_natCast,getD_mapT hi2,hwi]
  have hm:=c_ref28_Groups gs[i] (fun x hx=>by have:=hgo.all x hx;have:=hgo.n;omega) (by have:=hgo.len;omega)
  refine ⟨by omega,C1.im hm rfl (by rfl) ?_⟩
  have hi3:i < (gs.map gN).length:=by rw [List.length_map];exact hi2
  have hst1:=prod_step hi3 (all_take hv.gsz i) (by omega) (by simp only [List.getElem_map];have:=hgo.n;omega)
  rw [List.getElem_map] at hst1
  simp only [tl,tl2,tl4,↓un_u,isCallR,entX,argFr,ret,retI,retB,intT,unT,endR,ressR,resR,tupT,bslR,boxR,lenAll,↓reduceIte,Nat.reduceEqDiff,Nat.reduceAdd,Nat.reduceMul,Nat.reduceLT,Nat.reduceLeDiff,reduceCtorEq,Int.reduceLE,Int.reduceLT,ne_eq,Int.reduceEq,not_false_eq_true,decide_true,decide_false,Int.reduceToNat,tl3,Int.reduceBNe,Int.reduceBEq,rmK,rm1,not_true_eq_false,hst1]
  refine ⟨i + 1,by omega,by omega,?_⟩
  refine .of [] [] rfl (by first | rfl | (rw [hst];rfl)) ?_ ?_
  all_goals (try exact clA)
 ·have hi2:i = gs.length:=by omega
  subst hi2
  rw [List.take_of_length_le (by omega)]
  exact .imR rfl rfl
theorem gAt_len {sz:List Int} {gs:List (List Int)} (h:VwOk sz gs) {c:Int} (hc:0≤c):(gAt gs (placesL sz c)).length = gs.length:=(gAt_in h.len h.ok (place_range h.sp.all hc).1).1
theorem of_contains {sz:List Int} {gs:List (List Int)} (h:VwOk sz gs) {c:Int} (hc:0≤c):(gAt gs (placesL sz c)).contains (-1) = (gAt gs (placesL sz c)).any (fun g=>decide (g < 0)):=by
 have hg:=(gAt_in h.len h.ok (place_range h.sp.all hc).1).2.2
 cases hn:(gAt gs (placesL sz c)).any (fun g=>decide (g < 0)) with
 | true=>
   obtain ⟨g,hm,hx⟩:=List.any_eq_true.1 hn
   have:=hg g hm
   have hx:g < 0:=by simpa using hx
   have:g = -1:=by omega
   subst this
   exact List.contains_iff_mem.2 hm
 | false=>
   cases hcn:(gAt gs (placesL sz c)).contains (-1) with
   | false=>rfl
   | true=>
     have:=List.any_eq_false.1 hn _ (List.contains_iff_mem.1 hcn)
     simp at this
theorem gAt_get {gs:List (List Int)} {at_:List Int} {j:Nat} (h:j < gs.length) (h2:j < at_.length):(gAt gs at_)[j]'(by unfold gAt;rw [List.length_zipWith];omega) = gs[j].getD at_[j].toNat 0:=by
 unfold gAt
 simp
def atO (gs:List (List Int)) (pl:List Int) (j:Nat):List Int:=(gAt gs pl).take j ++ pl.drop j
theorem atO_len {gs:List (List Int)} {pl:List Int} {j:Nat} (h:gs.length = pl.length) (hj:j≤pl.length):(atO gs pl j).length = pl.length:=by
 unfold atO gAt
 rw [List.length_append,List.length_take,List.length_zipWith,List.length_drop]
 omega
theorem atO_get {gs:List (List Int)} {pl:List Int} {j:Nat} (h:gs.length = pl.length) (hj:j < pl.length):(atO gs pl j)[j]'(by rw [atO_len h (by omega)];exact hj) = pl[j]:=by
 have hl:((gAt gs pl).take j).length = j:=by unfold gAt;rw [List.length_take,List.length_zipWith];omega
 unfold atO
 rw [List.getElem_append_right (by omega)]
 simp only [hl,Nat.sub_self,List.getElem_drop,Nat.add_zero]
theorem atO_set {gs:List (List Int)} {pl:List Int} {j:Nat} (h:gs.length = pl.length) (hj:j < pl.length):(atO gs pl j).set j ((gs[j]'(by omega)).getD pl[j].toNat 0) = atO gs pl (j + 1):=by
 have hz:j < (gAt gs pl).length:=by unfold gAt;rw [List.length_zipWith];omega
 have hl:((gAt gs pl).take j).length = j:=by rw [List.length_take];omega
 unfold atO
 rw [List.set_append_right _ _ (by omega),hl,Nat.sub_self,List.drop_eq_getElem_cons hj,List.set_cons_zero,take_snoc hz,List.append_assoc,gAt_get (by omega) hj]
 rfl
theorem atO_end {gs:List (List Int)} {pl:List Int} (h:gs.length = pl.length):atO gs pl pl.length = gAt gs pl:=by
 have hl:(gAt gs pl).length = pl.length:=by unfold gAt;rw [List.length_zipWith];omega
 unfold atO
 rw [List.drop_length,List.append_nil,← hl,List.take_length]
def ofL (sz:List Int) (gs:List (List Int)) (n:Nat):List Int:=(cellsL n).map (ofS sz gs)
theorem ofL_len (sz:List Int) (gs:List (List Int)) (n:Nat):(ofL sz gs n).length = n:=by simp [ofL,cellsL]
theorem ofL_snoc (sz:List Int) (gs:List (List Int)) (n:Nat):ofL sz gs (n + 1) = ofL sz gs n ++ [ofS sz gs n]:=by
 unfold ofL
 rw [cells_snoc,List.map_append]
 rfl
theorem ofL_get {sz:List Int} {gs:List (List Int)} {n i:Nat} (h:i < (ofL sz gs n).length):(ofL sz gs n)[i] = ofS sz gs i:=by simp [ofL,cellsL]
theorem c_cells_published {sz:List Int} {gs:List (List Int)} (hv:VwOk sz gs):Spc Tryd.prog F_cells_published [spT sz,vwT gs] [] (vIs (ofL sz gs (prodI sz).toNat)) []:=by
 have hvl:=hv.len
 have hvs:=hv.sp.len
 have hp:=hv.sp.prod
 have hgl:(gs.map gN).length = gs.length:=List.length_map _
 refine spec_of_ir fn_cells_published mixm (by simp) fun e _ hst=>W_start ?_
 unfold ir_cells_published
 refine sW ?_
 refine C1.shut [] (c_cells_sizes hv) ?_ (by rfl) rfl ?_
 ·simp only [ltSto,ltO2,ltO1,ltAs,ltA,ltC,ltC0,ltC0s,ltCs,ltT,ltFr,ltS,wrOk,wrO,TL.get,hasFr,↓reduceIte,Nat.reduceEqDiff,reduceCtorEq,Option.getD_some,Option.isSome_some,List.length_map,List.length_append,List.length_cons,List.length_nil,List.append_nil,List.mem_singleton,List.mem_cons,List.not_mem_nil,and_true,true_and,and_self,imp_self,forall_const,false_implies,implies_true,true_implies,or_false,Bool.false_eq_true,Bool.true_eq_false,ImXs_nil,true_or,or_true,false_or,false_and,and_false,rmK,rm1]
 refine sW ?_
 refine C1.im (c_cells_product sz hv.sp.all hvs.2) rfl (by rfl) ?_
 refine sW ?_
 obtain ⟨N,hN⟩:∃ N:Nat,prodI sz = N:=⟨(prodI sz).toNat,by omega⟩
 rw [hN,Int.toNat_natCast]
 refine W_loopF mixm (α:=Nat) [6,16] (fun c=>c≤N) (fun c=>[(6,.asl 1 (ofL sz gs c).length),(16,vI c)]) (fun c=>[(4096,.arr 1 [spT sz] false),(4100,.arr 1 [vwT gs] false),(1,.arr 1 ((ofL sz gs c).map vI) false)]) (fun c=>N - c) 0 (by omega) ?_ fun c hc=>?_
 ·refine .of [(4096,some 4096),(4100,some 4100),(1,none)] [] rfl (by first | rfl | (rw [hst];rfl)) ?_ ?_
  all_goals (try exact clA)
 simp only [tl,tl2,tl4,↓un_u,isCallR,entX,argFr,ret,retI,retB,intT,unT,endR,ressR,resR,tupT,bslR,boxR,lenAll,↓reduceIte,Nat.reduceEqDiff,Nat.reduceAdd,Nat.reduceMul,Nat.reduceLT,Nat.reduceLeDiff,reduceCtorEq,Int.reduceLE,Int.reduceLT,ne_eq,Int.reduceEq,not_false_eq_true,decide_true,decide_false,Int.reduceToNat,tl3,Int.reduceBNe,Int.reduceBEq,rmK,rm1,not_true_eq_false,decide_eq_true_eq,decide_eq_false_iff_not]
 refine ⟨fun h=>?_,fun h=>?_⟩
 ·have hwc:=i64_succ (i:=c) (by omega)
  refine C1.fresh 28684 (c_cells_places sz c hv.sp.all hvs.2 (by omega)) (by rfl) (by apply imXs_map;intro _;exact ⟨rfl,rfl⟩) rfl ?_
  refine sW ?_
  obtain ⟨P,hP⟩:∃ P,P = placesL sz c:=⟨_,rfl⟩
  have hPl:P.length = sz.length:=by rw [hP,place_len]
  have hPr:=(place_range hv.sp.all (show (0:Int)≤(c:Int) by omega)).1
  rw [← hP] at hPr ⊢
  refine ⟨hPl,?_⟩
  refine W_loopF mixm (α:=Nat) [25] (fun j=>j≤sz.length) (fun j=>[(25,vI j)]) (fun j=>[(4096,.arr 1 [spT sz] false),(4100,.arr 1 [vwT gs] false),(1,.arr 1 ((ofL sz gs c).map vI) false),(28684,.arr 1 ((atO gs P j).map vI) false)]) (fun j=>sz.length - j) 0 (by omega) ?_ fun j hj=>?_
  ·have:atO gs P 0 = P:=by simp [atO]
   rw [this]
   refine .of [(4096,some 4096),(4100,some 4100),(1,some 1),(28684,some 28684)] [] rfl (by first | rfl | (rw [hst];rfl)) ?_ ?_
   all_goals (try exact clA)
  have hAl:=atO_len (gs:=gs) (pl:=P) (j:=j) (by omega) (by omega)
  simp only [tl,tl2,tl4,↓un_u,isCallR,entX,argFr,ret,retI,retB,intT,unT,endR,ressR,resR,tupT,bslR,boxR,lenAll,↓reduceIte,Nat.reduceEqDiff,Nat.reduceAdd,Nat.reduceMul,Nat.reduceLT,Nat.reduceLeDiff,reduceCtorEq,Int.reduceLE,Int.reduceLT,ne_eq,Int.reduceEq,not_false_eq_true,decide_true,decide_false,Int.reduceToNat,tl3,Int.reduceBNe,Int.reduceBEq,rmK,rm1,not_true_eq_false,decide_eq_true_eq,decide_eq_false_iff_not]
  refine ⟨fun h=>?_,fun h=>?_⟩
  ·have hjp:j < P.length:=by omega
   have hjg:j < gs.length:=by omega
   have hja:j < (atO gs P j).length:=by omega
   have hgj:=hv.g hjg
   have hr:=inR_get hPr (i:=j) (by omega) hjp
   have hsz:=(hv.get (i:=j) (by omega)).1
   have hag:=atO_get (gs:=gs) (pl:=P) (j:=j) (by omega) hjp
   have hk:P[j].toNat < gs[j].length:=by omega
   have hset:=atO_set (gs:=gs) (pl:=P) (j:=j) (by omega) hjp
   rw [getD_get hk] at hset
   have hj2:j < sz.length:=by omega
   have hwj:=i64_succ (i:=j) (by omega)
   simp only [tl,tl2,tl4,↓un_u,isCallR,entX,argFr,ret,retI,retB,intT,unT,endR,ressR,resR,tupT,bslR,boxR,lenAll,↓reduceIte,Nat.reduceEqDiff,Nat.reduceAdd,Nat.reduceMul,Nat.reduceLT,Nat.reduceLeDiff,reduceCtorEq,Int.reduceLE,Int.reduceLT,ne_eq,Int.reduceEq,not_false_eq_true,decide_true,decide_false,Int.reduceToNat,tl3,Int.reduceBNe,Int.reduceBEq,rmK,rm1,not_true_eq_false,Int.toNat_natCast,getD_mapT hj2,hwj,getD_mapT hja,hag,getD_mapT hjg,getD_mapT hk,show ∀ a b:Int,repl (vI a) 0 (vI b) = vI b from fun _ _=>rfl]
   rw [← List.map_set,hset]
   refine ⟨by omega,by omega,by omega,by omega,by omega,by omega,j + 1,by omega,by omega,?_⟩
   refine .of [(4096,some 4096),(4100,some 4100),(1,some 1),(28684,some 28684)] [] rfl (by first | rfl | (rw [hst];rfl)) ?_ ?_
   all_goals (try exact clA)
  ·have hj2:j = sz.length:=by omega
   subst hj2
   have hE:=atO_end (gs:=gs) (pl:=P) (by omega)
   rw [hPl] at hE
   rw [hE] at hAl ⊢
   have hco:=of_contains hv (c:=c) (by omega)
   rw [← hP] at hco
   refine C1.lend [28684] (c_slices_Contains_int (gAt gs P) (-1) (by omega)) ?_ (by rfl) (by rfl) ?_
   ·all_goals (try exact clA)
   simp only [tl,tl2,tl4,↓un_u,isCallR,entX,argFr,ret,retI,retB,intT,unT,endR,ressR,resR,tupT,bslR,boxR,lenAll,↓reduceIte,Nat.reduceEqDiff,Nat.reduceAdd,Nat.reduceMul,Nat.reduceLT,Nat.reduceLeDiff,reduceCtorEq,Int.reduceLE,Int.reduceLT,ne_eq,Int.reduceEq,not_false_eq_true,decide_true,decide_false,Int.reduceToNat,tl3,Int.reduceBNe,Int.reduceBEq,rmK,rm1,not_true_eq_false,hco]
   have hlN:=ofL_len sz gs c
   have hlS:=ofL_snoc sz gs c
   refine ⟨fun h3=>?_,fun h3=>?_⟩
   ·have ho:ofS sz gs c = -1:=by
     unfold ofS
     rw [← hP,if_pos h3]
    rw [ho] at hlS
    refine ⟨by omega,c + 1,by omega,by omega,?_⟩
    refine .of [(4096,some 4096),(4100,some 4100),(1,some 1)] [] rfl (by first | rfl | (rw [hst];rfl)) ?_ ?_
    all_goals (try simp only [ltSto,ltO2,ltO1,ltAs,ltA,ltC,ltC0,ltC0s,ltCs,ltT,ltFr,ltS,wrOk,wrO,TL.get,hasFr,↓reduceIte,Nat.reduceEqDiff,reduceCtorEq,Option.getD_some,Option.isSome_some,List.length_map,List.length_append,List.length_cons,List.length_nil,List.append_nil,List.mem_singleton,List.mem_cons,List.not_mem_nil,and_true,true_and,and_self,imp_self,forall_const,false_implies,implies_true,true_implies,or_false,Bool.false_eq_true,Bool.true_eq_false,ImXs_nil,true_or,or_true,false_or,false_and,and_false,rmK,rm1,List.map_append,List.map_cons,List.map_nil,List.cons_append,List.nil_append,hlS,hwc,List.length_append,List.length_cons,List.length_nil])
    all_goals (try (repeat' (first | exact ltXs_nil | (apply ltXs_map;intro _;exact ⟨rfl,rfl⟩) | (apply imXs_map;intro _;exact ⟨rfl,rfl⟩) | with_reducible apply imXs_append | with_reducible refine imXs_cons ⟨rfl,rfl⟩ ?_ | exact imXs_nil | with_reducible apply ltXs_append | with_reducible refine ltXs_cons ⟨rfl,rfl,?_⟩ ?_ | with_reducible apply And.intro | exact ltCs_im rfl | exact ltCs_im (by assumption) | (refine ⟨⟨?_,rfl,?_,rfl,?_⟩,trivial⟩ <;> first | (simp;done) | (apply imXs_map;intro _;exact ⟨rfl,rfl⟩)) | trivial | rfl | (rw [i64_succ (by omega)]) | omega)))
   ·have ho:ofS sz gs c = numL (gs.map gN) (gAt gs P):=by
     unfold ofS
     rw [← hP,if_neg (by rw [h3];simp)]
    have hin:=(gAt_in hv.len hv.ok (place_range hv.sp.all (show (0:Int)≤(c:Int) by omega)).1).2.1
    rw [← hP] at hin
    refine C1.lend [28684] (c_cells_number (gs.map gN) (gAt gs P) hv.gsz (by omega) (hin h3)) ?_ (by rfl) (by rfl) ?_
    ·all_goals (try exact clA)
    rw [← ho]
    refine sW ?_
    refine ⟨by omega,c + 1,by omega,by omega,?_⟩
    refine .of [(4096,some 4096),(4100,some 4100),(1,some 1)] [] rfl (by first | rfl | (rw [hst];rfl)) ?_ ?_
    all_goals (try simp only [ltSto,ltO2,ltO1,ltAs,ltA,ltC,ltC0,ltC0s,ltCs,ltT,ltFr,ltS,wrOk,wrO,TL.get,hasFr,↓reduceIte,Nat.reduceEqDiff,reduceCtorEq,Option.getD_some,Option.isSome_some,List.length_map,List.length_append,List.length_cons,List.length_nil,List.append_nil,List.mem_singleton,List.mem_cons,List.not_mem_nil,and_true,true_and,and_self,imp_self,forall_const,false_implies,implies_true,true_implies,or_false,Bool.false_eq_true,Bool.true_eq_false,ImXs_nil,true_or,or_true,false_or,false_and,and_false,rmK,rm1,List.map_append,List.map_cons,List.map_nil,List.cons_append,List.nil_append,hlS,hwc,List.length_append,List.length_cons,List.length_nil])
    all_goals (try (repeat' (first | exact ltXs_nil | (apply ltXs_map;intro _;exact ⟨rfl,rfl⟩) | (apply imXs_map;intro _;exact ⟨rfl,rfl⟩) | with_reducible apply imXs_append | with_reducible refine imXs_cons ⟨rfl,rfl⟩ ?_ | exact imXs_nil | with_reducible apply ltXs_append | with_reducible refine ltXs_cons ⟨rfl,rfl,?_⟩ ?_ | with_reducible apply And.intro | exact ltCs_im rfl | exact ltCs_im (by assumption) | (refine ⟨⟨?_,rfl,?_,rfl,?_⟩,trivial⟩ <;> first | (simp;done) | (apply imXs_map;intro _;exact ⟨rfl,rfl⟩)) | trivial | rfl | (rw [i64_succ (by omega)]) | omega)))
 ·have hc2:c = N:=by omega
  subst hc2
  refine .of [] [1] rfl (by first | rfl | (rw [hst];rfl)) ?_ ?_
  all_goals (try exact clA)
theorem memb_step (sz:List Int) (gs:List (List Int)) (k:Int) (i:Nat):(cellsL (i + 1)).filter (fun c=>ofS sz gs c == k) = (cellsL i).filter (fun c=>ofS sz gs c == k) ++ (if ofS sz gs i = k then [(i:Int)] else []):=by
 rw [cells_snoc,List.filter_append]
 congr 1
 by_cases h:ofS sz gs i = k
 ·simp [h]
 ·simp [h]
theorem c_cells_Members {sz:List Int} {gs:List (List Int)} (k:Int) (hl:sz.length < 4611686018427387904) (hg:gs.length < 4611686018427387904) (hgl:∀ g∈gs,g.length < 1000000) :
 Spc Tryd.prog F_cells_Members [spT sz,vwT gs,vI k] [] (.tup [vIs (membA sz gs k).1,vI (membA sz gs k).2]) []:=by
 refine spec_of_ir fn_cells_Members mixm (by simp) fun e _ hst=>W_start ?_
 unfold ir_cells_Members
 refine sW ?_
 refine C1.shut [] (c_cells_View sz gs hl hg hgl) ?_ (by rfl) rfl ?_
 ·simp only [ltSto,ltO2,ltO1,ltAs,ltA,ltC,ltC0,ltC0s,ltCs,ltT,ltFr,ltS,wrOk,wrO,TL.get,hasFr,↓reduceIte,Nat.reduceEqDiff,reduceCtorEq,Option.getD_some,Option.isSome_some,List.length_map,List.length_append,List.length_cons,List.length_nil,List.append_nil,List.mem_singleton,List.mem_cons,List.not_mem_nil,and_true,true_and,and_self,imp_self,forall_const,false_implies,implies_true,true_implies,or_false,Bool.false_eq_true,Bool.true_eq_false,ImXs_nil,true_or,or_true,false_or,false_and,and_false,rmK,rm1]
 simp only [tl,tl2,tl4,↓un_u,isCallR,entX,argFr,ret,retI,retB,intT,unT,endR,ressR,resR,tupT,bslR,boxR,lenAll,↓reduceIte,Nat.reduceEqDiff,Nat.reduceAdd,Nat.reduceMul,Nat.reduceLT,Nat.reduceLeDiff,reduceCtorEq,Int.reduceLE,Int.reduceLT,ne_eq,Int.reduceEq,not_false_eq_true,decide_true,decide_false,Int.reduceToNat,tl3,Int.reduceBNe,Int.reduceBEq,rmK,rm1,not_true_eq_false,bne_iff_ne,bne_eq_false_iff_eq]
 refine ⟨fun h=>?_,fun h=>?_⟩
 ·rw [membA,if_pos h]
  refine .of [] [] rfl (by first | rfl | (rw [hst];rfl)) ?_ ?_
  all_goals (try exact clA)
 have hv:=viewE_ok.1 h
 have hgm:(gs.map gN).length≤4:=by have:=hv.len;have:=hv.sp.len;rw [List.length_map];omega
 have hcs:=c_cells_sizes hv
 have hcp:=c_cells_product (gs.map gN) hv.gsz hgm
 rw [show prodI (gs.map gN) = pubN gs from rfl] at hcp
 have hmA:membA sz gs k = if k < 0∨k≥pubN gs then ([],2) else (membL sz gs k,0):=by rw [membA,if_neg (fun e=>e h)]
 rw [hmA]
 refine C2.im (fun _=>hcs) (fun _=>rfl) (by rfl) ?_
 refine sW ?_
 refine C2.im (fun _=>hcp) (fun _=>rfl) (by rfl) ?_
 refine sD ?_
 refine ⟨fun h2=>?_,fun h2=>?_⟩
 ·rw [if_pos (by omega)]
  refine .of [] [] rfl (by first | rfl | (rw [hst];rfl)) ?_ ?_
  all_goals (try exact clA)
 rw [if_neg (by omega)]
 refine C1.shut [] (c_cells_published hv) ?_ (by rfl) rfl ?_
 ·simp only [ltSto,ltO2,ltO1,ltAs,ltA,ltC,ltC0,ltC0s,ltCs,ltT,ltFr,ltS,wrOk,wrO,TL.get,hasFr,↓reduceIte,Nat.reduceEqDiff,reduceCtorEq,Option.getD_some,Option.isSome_some,List.length_map,List.length_append,List.length_cons,List.length_nil,List.append_nil,List.mem_singleton,List.mem_cons,List.not_mem_nil,and_true,true_and,and_self,imp_self,forall_const,false_implies,implies_true,true_implies,or_false,Bool.false_eq_true,Bool.true_eq_false,ImXs_nil,true_or,or_true,false_or,false_and,and_false,rmK,rm1]
 refine sW ?_
 have hp:=hv.sp.prod
 obtain ⟨N,hN⟩:∃ N:Nat,prodI sz = N:=⟨(prodI sz).toNat,by omega⟩
 unfold membL
 rw [hN,Int.toNat_natCast]
 have hlN:=ofL_len sz gs N
 refine W_loopF mixm (α:=Nat) [9,31] (fun i=>i≤N) (fun i=>[(9,.asl 1 ((cellsL i).filter fun c=>ofS sz gs c == k).length),(31,vI i)]) (fun i=>[(1,.arr 1 (((cellsL i).filter fun c=>ofS sz gs c == k).map vI) false)]) (fun i=>N - i) 0 (by omega) ?_ fun i hi=>?_
 ·refine .of [(1,none)] [] rfl (by first | rfl | (rw [hst];rfl)) ?_ ?_
  all_goals (try exact clA)
 simp only [tl,tl2,tl4,↓un_u,isCallR,entX,argFr,ret,retI,retB,intT,unT,endR,ressR,resR,tupT,bslR,boxR,lenAll,↓reduceIte,Nat.reduceEqDiff,Nat.reduceAdd,Nat.reduceMul,Nat.reduceLT,Nat.reduceLeDiff,reduceCtorEq,Int.reduceLE,Int.reduceLT,ne_eq,Int.reduceEq,not_false_eq_true,decide_true,decide_false,Int.reduceToNat,tl3,Int.reduceBNe,Int.reduceBEq,rmK,rm1,not_true_eq_false,decide_eq_true_eq,decide_eq_false_iff_not,Bool.or_eq_true,Bool.or_eq_false_iff,Bool.and_eq_true,Bool.and_eq_false_iff,hlN]
 refine ⟨fun h3=>?_,fun h3=>?_⟩
 ·have hi3:i < (ofL sz gs N).length:=by omega
  have hms:=memb_step sz gs k i
  have hfl:=List.length_filter_le (fun c=>ofS sz gs c == k) (cellsL i)
  rw [cells_len] at hfl
  have hwi:=i64_succ (i:=i) (by omega)
  simp only [tl,tl2,tl4,↓un_u,isCallR,entX,argFr,ret,retI,retB,intT,unT,endR,ressR,resR,tupT,bslR,boxR,lenAll,↓reduceIte,Nat.reduceEqDiff,Nat.reduceAdd,Nat.reduceMul,Nat.reduceLT,Nat.reduceLeDiff,reduceCtorEq,Int.reduceLE,Int.reduceLT,ne_eq,Int.reduceEq,not_false_eq_true,decide_true,decide_false,Int.reduceToNat,tl3,Int.reduceBNe,Int.reduceBEq,rmK,rm1,not_true_eq_false,Int.toNat_natCast,getD_mapT hi3,ofL_get,beq_iff_eq,beq_eq_false_iff_ne,hlN,hwi]
  refine ⟨by omega,fun h4=>?_,fun h4=>?_⟩
  ·rw [if_pos h4] at hms
   refine ⟨by omega,i + 1,by omega,by omega,?_⟩
   refine .of [(1,some 1)] [] rfl (by first | rfl | (rw [hst];rfl)) ?_ ?_
   all_goals (try simp only [ltSto,ltO2,ltO1,ltAs,ltA,ltC,ltC0,ltC0s,ltCs,ltT,ltFr,ltS,wrOk,wrO,TL.get,hasFr,↓reduceIte,Nat.reduceEqDiff,reduceCtorEq,Option.getD_some,Option.isSome_some,List.length_map,List.length_append,List.length_cons,List.length_nil,List.append_nil,List.mem_singleton,List.mem_cons,List.not_mem_nil,and_true,true_and,and_self,imp_self,forall_const,false_implies,implies_true,true_implies,or_false,Bool.false_eq_true,Bool.true_eq_false,ImXs_nil,true_or,or_true,false_or,false_and,and_false,rmK,rm1,List.map_append,List.map_cons,List.map_nil,List.cons_append,List.nil_append,hms,List.length_append,List.length_cons,List.length_nil])
   all_goals (try (repeat' (first | exact ltXs_nil | (apply ltXs_map;intro _;exact ⟨rfl,rfl⟩) | (apply imXs_map;intro _;exact ⟨rfl,rfl⟩) | with_reducible apply imXs_append | with_reducible refine imXs_cons ⟨rfl,rfl⟩ ?_ | exact imXs_nil | with_reducible apply ltXs_append | with_reducible refine ltXs_cons ⟨rfl,rfl,?_⟩ ?_ | with_reducible apply And.intro | exact ltCs_im rfl | exact ltCs_im (by assumption) | (refine ⟨⟨?_,rfl,?_,rfl,?_⟩,trivial⟩ <;> first | (simp;done) | (apply imXs_map;intro _;exact ⟨rfl,rfl⟩)) | trivial | rfl | (rw [i64_succ (by omega)]) | omega)))
  ·rw [if_neg h4,List.append_nil] at hms
   refine ⟨i + 1,by omega,by omega,?_⟩
   refine .of [(1,some 1)] [] rfl (by first | rfl | (rw [hst];rfl)) ?_ ?_
   all_goals (try simp only [ltSto,ltO2,ltO1,ltAs,ltA,ltC,ltC0,ltC0s,ltCs,ltT,ltFr,ltS,wrOk,wrO,TL.get,hasFr,↓reduceIte,Nat.reduceEqDiff,reduceCtorEq,Option.getD_some,Option.isSome_some,List.length_map,List.length_append,List.length_cons,List.length_nil,List.append_nil,List.mem_singleton,List.mem_cons,List.not_mem_nil,and_true,true_and,and_self,imp_self,forall_const,false_implies,implies_true,true_implies,or_false,Bool.false_eq_true,Bool.true_eq_false,ImXs_nil,true_or,or_true,false_or,false_and,and_false,rmK,rm1,List.map_append,List.map_cons,List.map_nil,List.cons_append,List.nil_append,hms])
   all_goals (try (repeat' (first | exact ltXs_nil | (apply ltXs_map;intro _;exact ⟨rfl,rfl⟩) | (apply imXs_map;intro _;exact ⟨rfl,rfl⟩) | with_reducible apply imXs_append | with_reducible refine imXs_cons ⟨rfl,rfl⟩ ?_ | exact imXs_nil | with_reducible apply ltXs_append | with_reducible refine ltXs_cons ⟨rfl,rfl,?_⟩ ?_ | with_reducible apply And.intro | exact ltCs_im rfl | exact ltCs_im (by assumption) | (refine ⟨⟨?_,rfl,?_,rfl,?_⟩,trivial⟩ <;> first | (simp;done) | (apply imXs_map;intro _;exact ⟨rfl,rfl⟩)) | trivial | rfl | (rw [i64_succ (by omega)]) | omega)))
 ·have hi2:i = N:=by omega
  subst hi2
  refine .of [] [1] rfl (by first | rfl | (rw [hst];rfl)) ?_ ?_
  all_goals (try exact clA)
end Go.Proofs
