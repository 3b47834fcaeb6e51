import Derived.Test.YtgdfndldfmjfhaaDoorJ29
set_option linter.unusedSimpArgs false
set_option linter.unusedVariables false
namespace Go.Proofs
open Go Go.TL
abbrev rlsT (r:Rls):T:=.agg [vI r.num,vvIs r.gs,vIs r.vals]
abbrev vRs (l:List Rls):T:=.sl 3 (l.map rlsT)
abbrev eqnT (x:Eqn):T:=.agg [vIs x.cells,vI x.val]
abbrev vQs (l:List Eqn):T:=.sl 2 (l.map eqnT)
structure RlsSm (r:Rls):Prop where
 gs:r.gs.length < 1000000
 g:∀ g∈r.gs,g.length < 1000000
 vals:r.vals.length < 1000000
theorem c_equations_value (n:Int):Spc Tryd.prog F_equations_value [vI n] [] (vB (okV n)) []:=by
 refine spec_of_ir fn_equations_value mixm (by simp) fun e _ hst=>W_start ?_
 unfold ir_equations_value
 refine sW ?_
 refine .imR ?_ rfl
 first | rfl | (unfold okV;by_cases h:n≥0 <;> simp [h])
theorem c_equations_check_1 (n:Int):Spc Tryd.prog F_equations_check_1 [vI n] [] (vB (!valOk n)) []:=by
 have hv:=c_equations_value n
 refine spec_of_ir fn_equations_check_1 mixm (by simp) fun e _ hst=>W_start ?_
 unfold ir_equations_check_1
 refine sW ?_
 refine C2.im (fun _=>hv) (fun _=>rfl) (by rfl) ?_
 refine sW ?_
 refine .imR ?_ rfl
 unfold valOk
 cases okV n <;> simp [bne]
theorem any_not {p:Int→Bool} (l:List Int):(l.any fun n=>!p n) = !(l.all p):=by
 induction l with
 | nil=>rfl
 | cons x r ih=>simp only [List.any_cons,List.all_cons,ih];cases p x <;> simp
theorem c_equations_check (sz:List Int) (r:Rls) (b:Int) (hl:sz.length < 4611686018427387904) (hr:RlsSm r):Spc Tryd.prog F_equations_check [spT sz,rlsT r,vI b] [] (vI (rlsE sz r b)) []:=by
 have hr1:=hr.gs
 have hr3:=hr.vals
 refine spec_of_ir fn_equations_check mixm (by simp) fun e _ hst=>W_start ?_
 unfold ir_equations_check
 refine sD ?_
 refine ⟨fun h=>?_,fun h=>?_⟩
 ·rw [rlsE,if_pos (by omega)]
  refine .of [] [] rfl (by first | rfl | (rw [hst];rfl)) ?_ ?_
  all_goals (try exact clA)
 refine C1.shut [] (c_cells_View sz r.gs hl (by omega) hr.g) ?_ (by rfl) rfl ?_
 ·simp only [ltSto,ltO2,ltO1,ltAs,ltA,ltC,ltC0,ltC0s,ltCs,ltT,ltFr,ltS,wrOk,wrO,TL.get,hasFr,↓reduceIte,Nat.reduceEqDiff,reduceCtorEq,Option.getD_some,Option.isSome_some,List.length_map,List.length_append,List.length_cons,List.length_nil,List.append_nil,List.mem_singleton,List.mem_cons,List.not_mem_nil,and_true,true_and,and_self,imp_self,forall_const,false_implies,implies_true,true_implies,or_false,Bool.false_eq_true,Bool.true_eq_false,ImXs_nil,true_or,or_true,false_or,false_and,and_false,rmK,rm1]
 simp only [tl,tl2,tl4,↓un_u,isCallR,entX,argFr,ret,retI,retB,intT,unT,endR,ressR,resR,tupT,bslR,boxR,lenAll,↓reduceIte,Nat.reduceEqDiff,Nat.reduceAdd,Nat.reduceMul,Nat.reduceLT,Nat.reduceLeDiff,reduceCtorEq,Int.reduceLE,Int.reduceLT,ne_eq,Int.reduceEq,not_false_eq_true,decide_true,decide_false,Int.reduceToNat,tl3,Int.reduceBNe,Int.reduceBEq,rmK,rm1,not_true_eq_false,bne_iff_ne,bne_eq_false_iff_eq]
 refine ⟨fun h2=>?_,fun h2=>?_⟩
 ·rw [rlsE,if_neg (by omega),if_pos h2]
  refine .of [] [] rfl (by first | rfl | (rw [hst];rfl)) ?_ ?_
  all_goals (try exact clA)
 have hpub:published sz r.gs = pubN r.gs:=by rw [published,if_pos h2]
 refine C1.shut [] (c_cells_Published sz r.gs hl (by omega) hr.g) ?_ (by rfl) rfl ?_
 ·simp only [ltSto,ltO2,ltO1,ltAs,ltA,ltC,ltC0,ltC0s,ltCs,ltT,ltFr,ltS,wrOk,wrO,TL.get,hasFr,↓reduceIte,Nat.reduceEqDiff,reduceCtorEq,Option.getD_some,Option.isSome_some,List.length_map,List.length_append,List.length_cons,List.length_nil,List.append_nil,List.mem_singleton,List.mem_cons,List.not_mem_nil,and_true,true_and,and_self,imp_self,forall_const,false_implies,implies_true,true_implies,or_false,Bool.false_eq_true,Bool.true_eq_false,ImXs_nil,true_or,or_true,false_or,false_and,and_false,rmK,rm1]
 simp only [tl,tl2,tl4,↓un_u,isCallR,entX,argFr,ret,retI,retB,intT,unT,endR,ressR,resR,tupT,bslR,boxR,lenAll,↓reduceIte,Nat.reduceEqDiff,Nat.reduceAdd,Nat.reduceMul,Nat.reduceLT,Nat.reduceLeDiff,reduceCtorEq,Int.reduceLE,Int.reduceLT,ne_eq,Int.reduceEq,not_false_eq_true,decide_true,decide_false,Int.reduceToNat,tl3,Int.reduceBNe,Int.reduceBEq,rmK,rm1,not_true_eq_false,bne_iff_ne,bne_eq_false_iff_eq,hpub]
 refine ⟨by kernel_rfl,fun h3=>?_,fun h3=>?_⟩
 ·rw [rlsE,if_neg (by omega),if_neg (fun e=>e h2),if_pos h3]
  refine .of [] [] rfl (by first | rfl | (rw [hst];rfl)) ?_ ?_
  all_goals (try exact clA)
 refine C1.shut [] (c_slices_ContainsFunc_int (fun n=>!valOk n) F_equations_check_1 [] rfl r.vals (fun n _=>c_equations_check_1 n) (by omega)) ?_ (by rfl) rfl ?_
 ·all_goals (try exact clA)
 rw [any_not]
 simp only [tl,tl2,tl4,↓un_u,isCallR,entX,argFr,ret,retI,retB,intT,unT,endR,ressR,resR,tupT,bslR,boxR,lenAll,↓reduceIte,Nat.reduceEqDiff,Nat.reduceAdd,Nat.reduceMul,Nat.reduceLT,Nat.reduceLeDiff,reduceCtorEq,Int.reduceLE,Int.reduceLT,ne_eq,Int.reduceEq,not_false_eq_true,decide_true,decide_false,Int.reduceToNat,tl3,Int.reduceBNe,Int.reduceBEq,rmK,rm1,not_true_eq_false,Bool.not_eq_true',Bool.not_eq_false']
 refine ⟨fun h4=>?_,fun h4=>?_⟩
 ·rw [rlsE,if_neg (by omega),if_neg (fun e=>e h2),if_neg (fun e=>e h3),if_pos h4]
  refine .of [] [] rfl (by first | rfl | (rw [hst];rfl)) ?_ ?_
  all_goals (try exact clA)
 ·rw [rlsE,if_neg (by omega),if_neg (fun e=>e h2),if_neg (fun e=>e h3),if_neg (by rw [h4];simp)]
  refine .of [] [] rfl (by first | rfl | (rw [hst];rfl)) ?_ ?_
  all_goals (try exact clA)
theorem c_equations_Check (sz:List Int) (l:List Rls) (hl:sz.length < 4611686018427387904) (hll:l.length < 4611686018427387904) (hr:∀ r∈l,RlsSm r):Spc Tryd.prog F_equations_Check [spT sz,vRs l] [] (vI (rlsC sz l)) []:=by
 refine spec_of_ir fn_equations_Check mixm (by simp) fun e _ hst=>W_start ?_
 unfold ir_equations_Check
 refine sW ?_
 refine C1.shut [] (c_cells_Check sz hl) ?_ (by rfl) rfl ?_
 ·simp only [ltSto,ltO2,ltO1,ltAs,ltA,ltC,ltC0,ltC0s,ltCs,ltT,ltFr,ltS,wrOk,wrO,TL.get,hasFr,↓reduceIte,Nat.reduceEqDiff,reduceCtorEq,Option.getD_some,Option.isSome_some,List.length_map,List.length_append,List.length_cons,List.length_nil,List.append_nil,List.mem_singleton,List.mem_cons,List.not_mem_nil,and_true,true_and,and_self,imp_self,forall_const,false_implies,implies_true,true_implies,or_false,Bool.false_eq_true,Bool.true_eq_false,ImXs_nil,true_or,or_true,false_or,false_and,and_false,rmK,rm1]
 simp only [tl,tl2,tl4,↓un_u,isCallR,entX,argFr,ret,retI,retB,intT,unT,endR,ressR,resR,tupT,bslR,boxR,lenAll,↓reduceIte,Nat.reduceEqDiff,Nat.reduceAdd,Nat.reduceMul,Nat.reduceLT,Nat.reduceLeDiff,reduceCtorEq,Int.reduceLE,Int.reduceLT,ne_eq,Int.reduceEq,not_false_eq_true,decide_true,decide_false,Int.reduceToNat,tl3,Int.reduceBNe,Int.reduceBEq,rmK,rm1,not_true_eq_false,bne_iff_ne,bne_eq_false_iff_eq,decide_eq_true_eq,decide_eq_false_iff_not,Bool.or_eq_true,Bool.or_eq_false_iff,Bool.and_eq_true,Bool.and_eq_false_iff]
 refine ⟨fun h=>?_,fun h=>⟨fun h2=>?_,fun h2=>?_⟩⟩
 ·rw [rlsC,if_pos h]
  refine .of [] [] rfl (by first | rfl | (rw [hst];rfl)) ?_ ?_
  all_goals (try exact clA)
 ·rw [rlsC,if_neg (fun e=>e h),if_pos (by omega)]
  refine .of [] [] rfl (by first | rfl | (rw [hst];rfl)) ?_ ?_
  all_goals (try exact clA)
 have hC:rlsC sz l = rlsF sz l (-1):=by rw [rlsC,if_neg (fun e=>e h),if_neg (by omega)]
 rw [hC]
 obtain ⟨bf,hbf⟩:∃ bf:Nat→Int,bf = fun i=>if i = 0 then -1 else (l.getD (i - 1) default).num:=⟨_,rfl⟩
 refine W_loopF mixm (α:=Nat) [6,20] (fun i=>i≤l.length∧(rlsF sz (l.take i) (-1) = 0)) (fun i=>[(6,vI (bf i)),(20,vI i)]) (fun i=>[(4096,.arr 1 [spT sz] false)]) (fun i=>l.length - i) 0 ⟨by omega,?_⟩ ?_ fun i hi=>?_
 ·simp [rlsF]
 ·rw [hbf]
  refine .of [(4096,some 4096)] [] rfl (by first | rfl | (rw [hst];rfl)) ?_ ?_
  all_goals (try exact clA)
 simp only [tl,tl2,tl4,↓un_u,isCallR,entX,argFr,ret,retI,retB,intT,unT,endR,ressR,resR,tupT,bslR,boxR,lenAll,↓reduceIte,Nat.reduceEqDiff,Nat.reduceAdd,Nat.reduceMul,Nat.reduceLT,Nat.reduceLeDiff,reduceCtorEq,Int.reduceLE,Int.reduceLT,ne_eq,Int.reduceEq,not_false_eq_true,decide_true,decide_false,Int.reduceToNat,tl3,Int.reduceBNe,Int.reduceBEq,rmK,rm1,not_true_eq_false,decide_eq_true_eq,decide_eq_false_iff_not]
 refine ⟨fun h=>?_,fun h=>?_⟩
 ·have hri:=hr _ (List.getElem_mem (show i < l.length by omega))
  have hsn:=rlsF_snoc (sz:=sz) (show i < l.length by omega) hi.2
  have hb1:bf (i + 1) = (l[i]'(by omega)).num:=by rw [hbf];simp only [Nat.add_sub_cancel];rw [if_neg (by omega),getD_get (by omega)]
  rw [show (if i = 0 then (-1:Int) else (l.getD (i - 1) default).num) = bf i by rw [hbf]] at hsn
  have hi2:i < l.length:=by omega
  have hwi:=i64_succ (i:=i) (by omega)
  simp only [tl,tl2,tl4,↓un_u,isCallR,entX,argFr,ret,retI,retB,intT,unT,endR,ressR,resR,tupT,bslR,boxR,lenAll,↓reduceIte,Nat.reduceEqDiff,Nat.reduceAdd,Nat.reduceMul,Nat.reduceLT,Nat.reduceLeDiff,reduceCtorEq,Int.reduceLE,Int.reduceLT,ne_eq,Int.reduceEq,not_false_eq_true,decide_true,decide_false,Int.reduceToNat,tl3,Int.reduceBNe,Int.reduceBEq,rmK,rm1,not_true_eq_false,Int.toNat_natCast,getD_mapT hi2,hwi]
  refine ⟨by omega,?_⟩
  refine C1.shut [] (c_equations_check sz l[i] (bf i) hl hri) ?_ (by rfl) rfl ?_
  ·simp only [ltSto,ltO2,ltO1,ltAs,ltA,ltC,ltC0,ltC0s,ltCs,ltT,ltFr,ltS,wrOk,wrO,TL.get,hasFr,↓reduceIte,Nat.reduceEqDiff,reduceCtorEq,Option.getD_some,Option.isSome_some,List.length_map,List.length_append,List.length_cons,List.length_nil,List.append_nil,List.mem_singleton,List.mem_cons,List.not_mem_nil,and_true,true_and,and_self,imp_self,forall_const,false_implies,implies_true,true_implies,or_false,Bool.false_eq_true,Bool.true_eq_false,ImXs_nil,true_or,or_true,false_or,false_and,and_false,rmK,rm1]
  rw [← hsn]
  simp only [tl,tl2,tl4,↓un_u,isCallR,entX,argFr,ret,retI,retB,intT,unT,endR,ressR,resR,tupT,bslR,boxR,lenAll,↓reduceIte,Nat.reduceEqDiff,Nat.reduceAdd,Nat.reduceMul,Nat.reduceLT,Nat.reduceLeDiff,reduceCtorEq,Int.reduceLE,Int.reduceLT,ne_eq,Int.reduceEq,not_false_eq_true,decide_true,decide_false,Int.reduceToNat,tl3,Int.reduceBNe,Int.reduceBEq,rmK,rm1,not_true_eq_false,bne_iff_ne,bne_eq_false_iff_eq]
  refine ⟨fun h3=>?_,fun h3=>⟨i + 1,⟨by omega,h3⟩,by omega,?_⟩⟩
  ·rw [rlsF_stays h3]
   refine .of [] [] rfl (by first | rfl | (rw [hst];rfl)) ?_ ?_
   all_goals (try exact clA)
  ·rw [← hb1]
   refine .of [(4096,some 4096)] [] rfl (by first | rfl | (rw [hst];rfl)) ?_ ?_
   all_goals (try exact clA)
 ·have hi2:i = l.length:=by omega
  subst hi2
  have h3:=hi.2
  rw [List.take_length] at h3
  rw [h3]
  refine .of [] [] rfl (by first | rfl | (rw [hst];rfl)) ?_ ?_
  all_goals (try exact clA)
theorem tell_take_len (sz:List Int) (r:Rls) (i:Nat):(tellF sz r.gs (r.vals.take i) 0).length≤r.vals.length:=Nat.le_trans (tellF_len _ _ _ _) (by rw [List.length_take];omega)
theorem c_equations_told {sz:List Int} {r:Rls} {b:Int} (hr:RlOk sz r b) (hsm:RlsSm r):Spc Tryd.prog F_equations_told [spT sz,rlsT r] [] (vQs (tell sz r)) []:=by
 have hr3:=hsm.vals
 have hlen:=hr.len
 have hvs:=hr.vw.sp.len
 have hgl:=hr.vw.len
 refine spec_of_ir fn_equations_told mixm (by simp) fun e _ hst=>W_start ?_
 unfold ir_equations_told
 refine sW ?_
 obtain ⟨q,hq⟩:∃ q:Nat→List Eqn,q = fun i=>tellF sz r.gs (r.vals.take i) 0:=⟨_,rfl⟩
 have hq0:q 0 = []:=by rw [hq];simp [tellF]
 have hqe:q r.vals.length = tell sz r:=by rw [hq];simp only [List.take_length,tell]
 have hql:∀ i,(q i).length≤r.vals.length:=fun i=>by rw [hq];exact tell_take_len sz r i
 refine W_loopF mixm (α:=Nat) [5,13] (fun i=>i≤r.vals.length) (fun i=>[(5,.asl 1 (q i).length),(13,vI i)]) (fun i=>[(4096,.arr 1 [spT sz] false),(4100,.arr 3 [rlsT r] false),(1,.arr 2 ((q i).map eqnT) false)]) (fun i=>r.vals.length - i) 0 (by omega) ?_ fun i hi=>?_
 ·rw [hq0]
  refine .of [(4096,some 4096),(4100,some 4100),(1,none)] [] rfl (by first | rfl | (rw [hst];rfl)) ?_ ?_
  all_goals (try exact clA)
 have hqi:=hql i
 simp only [tl,tl2,tl4,↓un_u,isCallR,entX,argFr,ret,retI,retB,intT,unT,endR,ressR,resR,tupT,bslR,boxR,lenAll,↓reduceIte,Nat.reduceEqDiff,Nat.reduceAdd,Nat.reduceMul,Nat.reduceLT,Nat.reduceLeDiff,reduceCtorEq,Int.reduceLE,Int.reduceLT,ne_eq,Int.reduceEq,not_false_eq_true,decide_true,decide_false,Int.reduceToNat,tl3,Int.reduceBNe,Int.reduceBEq,rmK,rm1,not_true_eq_false,decide_eq_true_eq,decide_eq_false_iff_not]
 refine ⟨fun h=>?_,fun h=>?_⟩
 ·have hsn:=tell_snoc (sz:=sz) (gs:=r.gs) (show i < r.vals.length by omega)
  rw [show tellF sz r.gs (r.vals.take i) 0 = q i by rw [hq],show tellF sz r.gs (r.vals.take (i + 1)) 0 = q (i + 1) by rw [hq]] at hsn
  have hi2:i < r.vals.length:=by omega
  have hwi:=i64_succ (i:=i) (by omega)
  simp only [tl,tl2,tl4,↓un_u,isCallR,entX,argFr,ret,retI,retB,intT,unT,endR,ressR,resR,tupT,bslR,boxR,lenAll,↓reduceIte,Nat.reduceEqDiff,Nat.reduceAdd,Nat.reduceMul,Nat.reduceLT,Nat.reduceLeDiff,reduceCtorEq,Int.reduceLE,Int.reduceLT,ne_eq,Int.reduceEq,not_false_eq_true,decide_true,decide_false,Int.reduceToNat,tl3,Int.reduceBNe,Int.reduceBEq,rmK,rm1,not_true_eq_false,Int.toNat_natCast,getD_mapT hi2,hwi,beq_iff_eq,beq_eq_false_iff_ne]
  refine ⟨by omega,fun h3=>?_,fun h3=>?_⟩
  ·rw [if_pos h3,List.append_nil] at hsn
   refine ⟨i + 1,by omega,by omega,?_⟩
   rw [hsn]
   refine .of [(4096,some 4096),(4100,some 4100),(1,some 1)] [] rfl (by first | rfl | (rw [hst];rfl)) ?_ ?_
   all_goals (try exact clA)
  ·rw [if_neg h3] at hsn
   have hm:membA sz r.gs i = (membL sz r.gs i,0):=by
    rw [membA,if_neg (fun e=>e (viewE_ok.2 hr.vw)),if_neg (by omega)]
   refine C1.shut [] (c_cells_Members (sz:=sz) (gs:=r.gs) (i:Int) (by omega) (by omega) hsm.g) ?_ (by rfl) rfl ?_
   ·simp only [ltSto,ltO2,ltO1,ltAs,ltA,ltC,ltC0,ltC0s,ltCs,ltT,ltFr,ltS,wrOk,wrO,TL.get,hasFr,↓reduceIte,Nat.reduceEqDiff,reduceCtorEq,Option.getD_some,Option.isSome_some,List.length_map,List.length_append,List.length_cons,List.length_nil,List.append_nil,List.mem_singleton,List.mem_cons,List.not_mem_nil,and_true,true_and,and_self,imp_self,forall_const,false_implies,implies_true,true_implies,or_false,Bool.false_eq_true,Bool.true_eq_false,ImXs_nil,true_or,or_true,false_or,false_and,and_false,rmK,rm1]
   rw [hm]
   refine sW ?_
   refine ⟨by omega,i + 1,by omega,by omega,?_⟩
   rw [hsn]
   refine .of [(4096,some 4096),(4100,some 4100),(1,some 1)] [] rfl (by first | rfl | (rw [hst];rfl)) ?_ ?_
   all_goals (try simp only [ltSto,ltO2,ltO1,ltAs,ltA,ltC,ltC0,ltC0s,ltCs,ltT,ltFr,ltS,wrOk,wrO,TL.get,hasFr,↓reduceIte,Nat.reduceEqDiff,reduceCtorEq,Option.getD_some,Option.isSome_some,List.length_map,List.length_append,List.length_cons,List.length_nil,List.append_nil,List.mem_singleton,List.mem_cons,List.not_mem_nil,and_true,true_and,and_self,imp_self,forall_const,false_implies,implies_true,true_implies,or_false,Bool.false_eq_true,Bool.true_eq_false,ImXs_nil,true_or,or_true,false_or,false_and,and_false,rmK,rm1,List.map_append,List.map_cons,List.map_nil,List.cons_append,List.nil_append,List.length_append,List.length_cons,List.length_nil])
   all_goals (try (repeat' (first | exact ltXs_nil | (apply ltXs_map;intro _;exact ⟨rfl,rfl⟩) | (apply imXs_map;intro _;exact ⟨rfl,rfl⟩) | with_reducible apply imXs_append | with_reducible refine imXs_cons ⟨rfl,rfl⟩ ?_ | exact imXs_nil | with_reducible apply ltXs_append | with_reducible refine ltXs_cons ⟨rfl,rfl,?_⟩ ?_ | with_reducible apply And.intro | exact ltCs_im rfl | exact ltCs_im (by assumption) | (refine ⟨⟨?_,rfl,?_,rfl,?_⟩,trivial⟩ <;> first | (simp;done) | (apply imXs_map;intro _;exact ⟨rfl,rfl⟩)) | trivial | rfl | (rw [i64_succ (by omega)]) | omega)))
 ·have hi2:i = r.vals.length:=by omega
  subst hi2
  rw [hqe]
  refine .of [] [1] rfl (by first | rfl | (rw [hst];rfl)) ?_ ?_
  all_goals (try exact clA)
theorem tells_len {sz:List Int}:∀ {l:List Rls},(∀ r∈l,RlsSm r)→(tells sz l).length≤l.length * 1000000
 | [],_=>by simp [tells]
 | r :: l,h=>by
   have e:tells sz (r :: l) = tell sz r ++ tells sz l:=by simp [tells]
   have h4:=tells_len (sz:=sz) (l:=l) fun x hx=>h x (List.mem_cons_of_mem _ hx)
   have h6:=tellF_len sz r.gs r.vals 0
   have h7:=(h r (by simp)).vals
   rw [e,List.length_append,List.length_cons]
   unfold tell
   omega
theorem c_equations_All (sz:List Int) (l:List Rls) (hl:sz.length < 4611686018427387904) (hll:l.length < 4611686018427387904) (hr:∀ r∈l,RlsSm r) :
 Spc Tryd.prog F_equations_All [spT sz,vRs l] [] (.tup [vQs (allA sz l).1,vI (allA sz l).2]) []:=by
 refine spec_of_ir fn_equations_All mixm (by simp) fun e _ hst=>W_start ?_
 unfold ir_equations_All
 refine sW ?_
 refine C1.shut [] (c_equations_Check sz l hl hll hr) ?_ (by rfl) rfl ?_
 ·all_goals (try exact clA)
 simp only [tl,tl2,tl4,↓un_u,isCallR,entX,argFr,ret,retI,retB,intT,unT,endR,ressR,resR,tupT,bslR,boxR,lenAll,↓reduceIte,Nat.reduceEqDiff,Nat.reduceAdd,Nat.reduceMul,Nat.reduceLT,Nat.reduceLeDiff,reduceCtorEq,Int.reduceLE,Int.reduceLT,ne_eq,Int.reduceEq,not_false_eq_true,decide_true,decide_false,Int.reduceToNat,tl3,Int.reduceBNe,Int.reduceBEq,rmK,rm1,not_true_eq_false,bne_iff_ne,bne_eq_false_iff_eq]
 refine ⟨fun h=>?_,fun h=>?_⟩
 ·rw [allA,if_pos h]
  refine .of [] [] rfl (by first | rfl | (rw [hst];rfl)) ?_ ?_
  all_goals (try exact clA)
 obtain ⟨h1,h2,h3⟩:=rlsC_mem h
 rw [allA,if_neg (fun e=>e h)]
 have hlen:∀ i,(tells sz (l.take i)).length≤24000000:=fun i=>by
  have:=tells_len (sz:=sz) (l:=l.take i) fun x hx=>hr x (List.mem_of_mem_take hx)
  rw [List.length_take] at this
  omega
 refine W_loopF mixm (α:=Nat) [7,18] (fun i=>i≤l.length) (fun i=>[(7,.asl 1 (tells sz (l.take i)).length),(18,vI i)]) (fun i=>[(4096,.arr 1 [spT sz] false),(1,.arr 2 ((tells sz (l.take i)).map eqnT) false)]) (fun i=>l.length - i) 0 (by omega) ?_ fun i hi=>?_
 ·refine .of [(4096,some 4096),(1,none)] [] rfl (by first | rfl | (rw [hst];rfl)) ?_ ?_
  all_goals (try exact clA)
 have hli:=hlen i
 simp only [tl,tl2,tl4,↓un_u,isCallR,entX,argFr,ret,retI,retB,intT,unT,endR,ressR,resR,tupT,bslR,boxR,lenAll,↓reduceIte,Nat.reduceEqDiff,Nat.reduceAdd,Nat.reduceMul,Nat.reduceLT,Nat.reduceLeDiff,reduceCtorEq,Int.reduceLE,Int.reduceLT,ne_eq,Int.reduceEq,not_false_eq_true,decide_true,decide_false,Int.reduceToNat,tl3,Int.reduceBNe,Int.reduceBEq,rmK,rm1,not_true_eq_false,decide_eq_true_eq,decide_eq_false_iff_not]
 refine ⟨fun h=>?_,fun h=>?_⟩
 ·have hsn:=tells_snoc (sz:=sz) (show i < l.length by omega)
  have hok:=h3 _ (List.getElem_mem (show i < l.length by omega))
  have hsm:=hr _ (List.getElem_mem (show i < l.length by omega))
  have hi2:i < l.length:=by omega
  have hwi:=i64_succ (i:=i) (by omega)
  simp only [tl,tl2,tl4,↓un_u,isCallR,entX,argFr,ret,retI,retB,intT,unT,endR,ressR,resR,tupT,bslR,boxR,lenAll,↓reduceIte,Nat.reduceEqDiff,Nat.reduceAdd,Nat.reduceMul,Nat.reduceLT,Nat.reduceLeDiff,reduceCtorEq,Int.reduceLE,Int.reduceLT,ne_eq,Int.reduceEq,not_false_eq_true,decide_true,decide_false,Int.reduceToNat,tl3,Int.reduceBNe,Int.reduceBEq,rmK,rm1,not_true_eq_false,Int.toNat_natCast,getD_mapT hi2,hwi]
  refine ⟨by omega,?_⟩
  refine C1.shut [] (c_equations_told hok hsm) ?_ (by rfl) rfl ?_
  ·simp only [ltSto,ltO2,ltO1,ltAs,ltA,ltC,ltC0,ltC0s,ltCs,ltT,ltFr,ltS,wrOk,wrO,TL.get,hasFr,↓reduceIte,Nat.reduceEqDiff,reduceCtorEq,Option.getD_some,Option.isSome_some,List.length_map,List.length_append,List.length_cons,List.length_nil,List.append_nil,List.mem_singleton,List.mem_cons,List.not_mem_nil,and_true,true_and,and_self,imp_self,forall_const,false_implies,implies_true,true_implies,or_false,Bool.false_eq_true,Bool.true_eq_false,ImXs_nil,true_or,or_true,false_or,false_and,and_false,rmK,rm1]
  have hli2:=hlen (i + 1)
  rw [hsn,List.length_append] at hli2
  simp only [tl,tl2,tl4,↓un_u,isCallR,entX,argFr,ret,retI,retB,intT,unT,endR,ressR,resR,tupT,bslR,boxR,lenAll,↓reduceIte,Nat.reduceEqDiff,Nat.reduceAdd,Nat.reduceMul,Nat.reduceLT,Nat.reduceLeDiff,reduceCtorEq,Int.reduceLE,Int.reduceLT,ne_eq,Int.reduceEq,not_false_eq_true,decide_true,decide_false,Int.reduceToNat,tl3,Int.reduceBNe,Int.reduceBEq,rmK,rm1,not_true_eq_false,List.length_map]
  refine ⟨by omega,i + 1,by omega,by omega,?_⟩
  rw [hsn]
  refine .of [(4096,some 4096),(1,some 1)] [] rfl (by first | rfl | (rw [hst];rfl)) ?_ ?_
  all_goals (try simp only [ltSto,ltO2,ltO1,ltAs,ltA,ltC,ltC0,ltC0s,ltCs,ltT,ltFr,ltS,wrOk,wrO,TL.get,hasFr,↓reduceIte,Nat.reduceEqDiff,reduceCtorEq,Option.getD_some,Option.isSome_some,List.length_map,List.length_append,List.length_cons,List.length_nil,List.append_nil,List.mem_singleton,List.mem_cons,List.not_mem_nil,and_true,true_and,and_self,imp_self,forall_const,false_implies,implies_true,true_implies,or_false,Bool.false_eq_true,Bool.true_eq_false,ImXs_nil,true_or,or_true,false_or,false_and,and_false,rmK,rm1,List.map_append,List.map_cons,List.map_nil,List.cons_append,List.nil_append,List.length_append])
  all_goals (try (repeat' (first | exact ltXs_nil | (apply ltXs_map;intro _;exact ⟨rfl,rfl⟩) | (apply imXs_map;intro _;exact ⟨rfl,rfl⟩) | with_reducible apply imXs_append | with_reducible refine imXs_cons ⟨rfl,rfl⟩ ?_ | exact imXs_nil | with_reducible apply ltXs_append | with_reducible refine ltXs_cons ⟨rfl,rfl,?_⟩ ?_ | with_reducible apply And.intro | exact ltCs_im rfl | exact ltCs_im (by assumption) | (refine ⟨⟨?_,rfl,?_,rfl,?_⟩,trivial⟩ <;> first | (simp;done) | (apply imXs_map;intro _;exact ⟨rfl,rfl⟩)) | trivial | rfl | (rw [i64_succ (by omega)]) | omega)))
 ·have hi2:i = l.length:=by omega
  subst hi2
  rw [List.take_length]
  refine .of [] [1] rfl (by first | rfl | (rw [hst];rfl)) ?_ ?_
  all_goals (try exact clA)
end Go.Proofs
