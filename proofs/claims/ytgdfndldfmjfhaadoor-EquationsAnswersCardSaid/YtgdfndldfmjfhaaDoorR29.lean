import Derived.Test.YtgdfndldfmjfhaaDoorO29
set_option linter.unusedSimpArgs false
set_option linter.unusedVariables false
namespace Go.Proofs
open Go Go.TL
set_option maxRecDepth 4000
theorem c_ref28_Members {sz:List Int} {gs:List (List Int)} (k:Int) (hl:sz.length < 4611686018427387904) (hg:gs.length < 4611686018427387904) (hgl:∀ g∈gs,g.length < 1000000) :
 Spc Tryd.prog F_ref28_Members [spT sz,vwT gs,vI k] [] (.tup [vIs (membA sz gs k).1,vI (membA sz gs k).2]) []:=by
 have hpub:=c_ref28_Published sz gs hl hg hgl
 have hcnt:=c_ref28_Count sz hl
 refine spec_of_ir fn_ref28_Members mixm (by simp) fun e _ hst=>W_start ?_
 unfold ir_ref28_Members
 refine sW ?_
 refine C1.shut [] (c_ref28_View sz gs hl hg hgl) ?_ (by rfl) rfl ?_
 ·simp only [ltSto,ltO2,ltO1,ltAs,ltA,ltC,ltC0,ltC0s,ltCs,ltT,ltFr,ltS,wrOk,wrO,TL.get,hasFr,↓reduceIte,Nat.reduceEqDiff,reduceCtorEq,Option.getD_some,Option.isSome_some,List.length_map,List.length_append,List.length_cons,List.length_nil,List.append_nil,List.mem_singleton,List.mem_cons,List.not_mem_nil,and_true,true_and,and_self,imp_self,forall_const,false_implies,implies_true,true_implies,or_false,Bool.false_eq_true,Bool.true_eq_false,ImXs_nil,true_or,or_true,false_or,false_and,and_false,rmK,rm1]
 simp only [tl,tl2,tl4,↓un_u,isCallR,entX,argFr,ret,retI,retB,intT,unT,endR,ressR,resR,tupT,bslR,boxR,lenAll,↓reduceIte,Nat.reduceEqDiff,Nat.reduceAdd,Nat.reduceMul,Nat.reduceLT,Nat.reduceLeDiff,reduceCtorEq,Int.reduceLE,Int.reduceLT,ne_eq,Int.reduceEq,not_false_eq_true,decide_true,decide_false,Int.reduceToNat,tl3,Int.reduceBNe,Int.reduceBEq,rmK,rm1,not_true_eq_false,bne_iff_ne,bne_eq_false_iff_eq]
 refine ⟨fun h=>?_,fun h=>?_⟩
 ·rw [membA,if_pos h]
  refine .of [] [] rfl (by first | rfl | (rw [hst];rfl)) ?_ ?_
  all_goals (try exact clA)
 have hv:=viewE_ok.1 h
 rw [published,if_pos h] at hpub
 have hck:chkS sz = 0:=chkS_ok.2 hv.sp
 rw [cntS,if_pos hck] at hcnt
 have hmA:membA sz gs k = if k < 0∨k≥pubN gs then ([],2) else (membL sz gs k,0):=by rw [membA,if_neg (fun e=>e h)]
 rw [hmA]
 refine C2.im (fun _=>hpub) (fun _=>rfl) (by rfl) ?_
 refine sD ?_
 refine ⟨fun h2=>?_,fun h2=>?_⟩
 ·rw [if_pos (by omega)]
  refine .of [] [] rfl (by first | rfl | (rw [hst];rfl)) ?_ ?_
  all_goals (try exact clA)
 rw [if_neg (by omega)]
 have hp:=hv.sp.prod
 obtain ⟨N,hN⟩:∃ N:Nat,prodI sz = N:=⟨(prodI sz).toNat,by omega⟩
 unfold membL
 rw [hN] at hcnt hp
 rw [hN,Int.toNat_natCast]
 refine W_loopF mixm (α:=Nat) [9,10] (fun i=>i≤N) (fun i=>[(9,.asl 1 ((cellsL i).filter fun c=>ofS sz gs c == k).length),(10,vI i)]) (fun i=>[(4096,.arr 1 [spT sz] false),(4100,.arr 1 [vwT gs] false),(1,.arr 1 (((cellsL i).filter fun c=>ofS sz gs c == k).map vI) false)]) (fun i=>N - i) 0 (by omega) ?_ fun i hi=>?_
 ·refine .of [(4096,some 4096),(4100,some 4100),(1,none)] [] rfl (by first | rfl | (rw [hst];rfl)) ?_ ?_
  all_goals (try exact clA)
 refine sW ?_
 refine C1.shut [] hcnt ?_ (by rfl) rfl ?_
 ·simp only [ltSto,ltO2,ltO1,ltAs,ltA,ltC,ltC0,ltC0s,ltCs,ltT,ltFr,ltS,wrOk,wrO,TL.get,hasFr,↓reduceIte,Nat.reduceEqDiff,reduceCtorEq,Option.getD_some,Option.isSome_some,List.length_map,List.length_append,List.length_cons,List.length_nil,List.append_nil,List.mem_singleton,List.mem_cons,List.not_mem_nil,and_true,true_and,and_self,imp_self,forall_const,false_implies,implies_true,true_implies,or_false,Bool.false_eq_true,Bool.true_eq_false,ImXs_nil,true_or,or_true,false_or,false_and,and_false,rmK,rm1]
 refine sD ?_
 refine ⟨fun h3=>?_,fun h3=>?_⟩
 ·have hi3:i < N:=by omega
  have hms:=memb_step sz gs k i
  have hfl:=List.length_filter_le (fun c=>ofS sz gs c == k) (cellsL i)
  rw [cells_len] at hfl
  have hwi:=i64_succ (i:=i) (by omega)
  refine C1.shut [] (c_ref28_Of hv (i:Int) (by omega)) ?_ (by rfl) rfl ?_
  ·simp only [ltSto,ltO2,ltO1,ltAs,ltA,ltC,ltC0,ltC0s,ltCs,ltT,ltFr,ltS,wrOk,wrO,TL.get,hasFr,↓reduceIte,Nat.reduceEqDiff,reduceCtorEq,Option.getD_some,Option.isSome_some,List.length_map,List.length_append,List.length_cons,List.length_nil,List.append_nil,List.mem_singleton,List.mem_cons,List.not_mem_nil,and_true,true_and,and_self,imp_self,forall_const,false_implies,implies_true,true_implies,or_false,Bool.false_eq_true,Bool.true_eq_false,ImXs_nil,true_or,or_true,false_or,false_and,and_false,rmK,rm1]
  simp only [tl,tl2,tl4,↓un_u,isCallR,entX,argFr,ret,retI,retB,intT,unT,endR,ressR,resR,tupT,bslR,boxR,lenAll,↓reduceIte,Nat.reduceEqDiff,Nat.reduceAdd,Nat.reduceMul,Nat.reduceLT,Nat.reduceLeDiff,reduceCtorEq,Int.reduceLE,Int.reduceLT,ne_eq,Int.reduceEq,not_false_eq_true,decide_true,decide_false,Int.reduceToNat,tl3,Int.reduceBNe,Int.reduceBEq,rmK,rm1,not_true_eq_false,beq_iff_eq,beq_eq_false_iff_ne,hwi]
  refine ⟨fun h4=>?_,fun h4=>?_⟩
  ·rw [if_pos h4] at hms
   refine ⟨by omega,i + 1,by omega,by omega,?_⟩
   refine .of [(4096,some 4096),(4100,some 4100),(1,some 1)] [] rfl (by first | rfl | (rw [hst];rfl)) ?_ ?_
   all_goals (try simp only [ltSto,ltO2,ltO1,ltAs,ltA,ltC,ltC0,ltC0s,ltCs,ltT,ltFr,ltS,wrOk,wrO,TL.get,hasFr,↓reduceIte,Nat.reduceEqDiff,reduceCtorEq,Option.getD_some,Option.isSome_some,List.length_map,List.length_append,List.length_cons,List.length_nil,List.append_nil,List.mem_singleton,List.mem_cons,List.not_mem_nil,and_true,true_and,and_self,imp_self,forall_const,false_implies,implies_true,true_implies,or_false,Bool.false_eq_true,Bool.true_eq_false,ImXs_nil,true_or,or_true,false_or,false_and,and_false,rmK,rm1,List.map_append,List.map_cons,List.map_nil,List.cons_append,List.nil_append,hms,List.length_append,List.length_cons,List.length_nil])
   all_goals (try (repeat' (first | exact ltXs_nil | (apply ltXs_map;intro _;exact ⟨rfl,rfl⟩) | (apply imXs_map;intro _;exact ⟨rfl,rfl⟩) | with_reducible apply imXs_append | with_reducible refine imXs_cons ⟨rfl,rfl⟩ ?_ | exact imXs_nil | with_reducible apply ltXs_append | with_reducible refine ltXs_cons ⟨rfl,rfl,?_⟩ ?_ | with_reducible apply And.intro | exact ltCs_im rfl | exact ltCs_im (by assumption) | (refine ⟨⟨?_,rfl,?_,rfl,?_⟩,trivial⟩ <;> first | (simp;done) | (apply imXs_map;intro _;exact ⟨rfl,rfl⟩)) | trivial | rfl | (rw [i64_succ (by omega)]) | omega)))
  ·rw [if_neg h4,List.append_nil] at hms
   refine ⟨i + 1,by omega,by omega,?_⟩
   refine .of [(4096,some 4096),(4100,some 4100),(1,some 1)] [] rfl (by first | rfl | (rw [hst];rfl)) ?_ ?_
   all_goals (try simp only [ltSto,ltO2,ltO1,ltAs,ltA,ltC,ltC0,ltC0s,ltCs,ltT,ltFr,ltS,wrOk,wrO,TL.get,hasFr,↓reduceIte,Nat.reduceEqDiff,reduceCtorEq,Option.getD_some,Option.isSome_some,List.length_map,List.length_append,List.length_cons,List.length_nil,List.append_nil,List.mem_singleton,List.mem_cons,List.not_mem_nil,and_true,true_and,and_self,imp_self,forall_const,false_implies,implies_true,true_implies,or_false,Bool.false_eq_true,Bool.true_eq_false,ImXs_nil,true_or,or_true,false_or,false_and,and_false,rmK,rm1,List.map_append,List.map_cons,List.map_nil,List.cons_append,List.nil_append,hms])
   all_goals (try (repeat' (first | exact ltXs_nil | (apply ltXs_map;intro _;exact ⟨rfl,rfl⟩) | (apply imXs_map;intro _;exact ⟨rfl,rfl⟩) | with_reducible apply imXs_append | with_reducible refine imXs_cons ⟨rfl,rfl⟩ ?_ | exact imXs_nil | with_reducible apply ltXs_append | with_reducible refine ltXs_cons ⟨rfl,rfl,?_⟩ ?_ | with_reducible apply And.intro | exact ltCs_im rfl | exact ltCs_im (by assumption) | (refine ⟨⟨?_,rfl,?_,rfl,?_⟩,trivial⟩ <;> first | (simp;done) | (apply imXs_map;intro _;exact ⟨rfl,rfl⟩)) | trivial | rfl | (rw [i64_succ (by omega)]) | omega)))
 ·have:i = N:=by omega
  subst this
  refine .of [] [1] rfl (by first | rfl | (rw [hst];rfl)) ?_ ?_
  all_goals (try exact clA)
theorem c_ref29_release (sz:List Int) (r:Rls) (b:Int) (hb : -1≤b) (hl:sz.length < 4611686018427387904) (hr:RlsSm r):Spc Tryd.prog F_ref29_release [spT sz,rlsT r,vI b] [] (vI (rlsE sz r b)) []:=by
 have hr1:=hr.gs
 have hr3:=hr.vals
 have hpub:=c_ref28_Published sz r.gs hl (by omega) hr.g
 refine spec_of_ir fn_ref29_release mixm (by simp) fun e _ hst=>W_start ?_
 unfold ir_ref29_release
 refine sD ?_
 refine ⟨fun h=>?_,fun h=>?_⟩
 ·rw [rlsE,if_pos (by omega)]
  refine .of [] [] rfl (by first | rfl | (rw [hst];rfl)) ?_ ?_
  all_goals (try exact clA)
 refine C1.shut [] (c_ref28_View sz r.gs hl (by omega) hr.g) ?_ (by rfl) rfl ?_
 ·simp only [ltSto,ltO2,ltO1,ltAs,ltA,ltC,ltC0,ltC0s,ltCs,ltT,ltFr,ltS,wrOk,wrO,TL.get,hasFr,↓reduceIte,Nat.reduceEqDiff,reduceCtorEq,Option.getD_some,Option.isSome_some,List.length_map,List.length_append,List.length_cons,List.length_nil,List.append_nil,List.mem_singleton,List.mem_cons,List.not_mem_nil,and_true,true_and,and_self,imp_self,forall_const,false_implies,implies_true,true_implies,or_false,Bool.false_eq_true,Bool.true_eq_false,ImXs_nil,true_or,or_true,false_or,false_and,and_false,rmK,rm1]
 simp only [tl,tl2,tl4,↓un_u,isCallR,entX,argFr,ret,retI,retB,intT,unT,endR,ressR,resR,tupT,bslR,boxR,lenAll,↓reduceIte,Nat.reduceEqDiff,Nat.reduceAdd,Nat.reduceMul,Nat.reduceLT,Nat.reduceLeDiff,reduceCtorEq,Int.reduceLE,Int.reduceLT,ne_eq,Int.reduceEq,not_false_eq_true,decide_true,decide_false,Int.reduceToNat,tl3,Int.reduceBNe,Int.reduceBEq,rmK,rm1,not_true_eq_false,bne_iff_ne,bne_eq_false_iff_eq]
 refine ⟨fun h2=>?_,fun h2=>?_⟩
 ·rw [rlsE,if_neg (by omega),if_pos h2]
  refine .of [] [] rfl (by first | rfl | (rw [hst];rfl)) ?_ ?_
  all_goals (try exact clA)
 rw [published,if_pos h2] at hpub
 refine C1.shut [] hpub ?_ (by rfl) rfl ?_
 ·simp only [ltSto,ltO2,ltO1,ltAs,ltA,ltC,ltC0,ltC0s,ltCs,ltT,ltFr,ltS,wrOk,wrO,TL.get,hasFr,↓reduceIte,Nat.reduceEqDiff,reduceCtorEq,Option.getD_some,Option.isSome_some,List.length_map,List.length_append,List.length_cons,List.length_nil,List.append_nil,List.mem_singleton,List.mem_cons,List.not_mem_nil,and_true,true_and,and_self,imp_self,forall_const,false_implies,implies_true,true_implies,or_false,Bool.false_eq_true,Bool.true_eq_false,ImXs_nil,true_or,or_true,false_or,false_and,and_false,rmK,rm1]
 simp only [tl,tl2,tl4,↓un_u,isCallR,entX,argFr,ret,retI,retB,intT,unT,endR,ressR,resR,tupT,bslR,boxR,lenAll,↓reduceIte,Nat.reduceEqDiff,Nat.reduceAdd,Nat.reduceMul,Nat.reduceLT,Nat.reduceLeDiff,reduceCtorEq,Int.reduceLE,Int.reduceLT,ne_eq,Int.reduceEq,not_false_eq_true,decide_true,decide_false,Int.reduceToNat,tl3,Int.reduceBNe,Int.reduceBEq,rmK,rm1,not_true_eq_false,bne_iff_ne,bne_eq_false_iff_eq]
 refine ⟨by kernel_rfl,fun h3=>?_,fun h3=>?_⟩
 ·rw [rlsE,if_neg (by omega),if_neg (fun e=>e h2),if_pos h3]
  refine .of [] [] rfl (by first | rfl | (rw [hst];rfl)) ?_ ?_
  all_goals (try exact clA)
 refine W_loopF mixm (α:=Nat) [42] (fun i=>i≤r.vals.length∧((r.vals.take i).all valOk = true)) (fun i=>[(42,vI i)]) (fun i=>[]) (fun i=>r.vals.length - i) 0 ⟨by omega,?_⟩ ?_ fun i hi=>?_
 ·rfl
 ·refine .of [] [] rfl (by first | rfl | (rw [hst];rfl)) ?_ ?_
  all_goals (try exact clA)
 simp only [tl,tl2,tl4,↓un_u,isCallR,entX,argFr,ret,retI,retB,intT,unT,endR,ressR,resR,tupT,bslR,boxR,lenAll,↓reduceIte,Nat.reduceEqDiff,Nat.reduceAdd,Nat.reduceMul,Nat.reduceLT,Nat.reduceLeDiff,reduceCtorEq,Int.reduceLE,Int.reduceLT,ne_eq,Int.reduceEq,not_false_eq_true,decide_true,decide_false,Int.reduceToNat,tl3,Int.reduceBNe,Int.reduceBEq,rmK,rm1,not_true_eq_false,decide_eq_true_eq,decide_eq_false_iff_not]
 refine ⟨fun h=>?_,fun h=>?_⟩
 ·have hi2:i < r.vals.length:=by omega
  have hwi:=i64_succ (i:=i) (by omega)
  simp only [tl,tl2,tl4,↓un_u,isCallR,entX,argFr,ret,retI,retB,intT,unT,endR,ressR,resR,tupT,bslR,boxR,lenAll,↓reduceIte,Nat.reduceEqDiff,Nat.reduceAdd,Nat.reduceMul,Nat.reduceLT,Nat.reduceLeDiff,reduceCtorEq,Int.reduceLE,Int.reduceLT,ne_eq,Int.reduceEq,not_false_eq_true,decide_true,decide_false,Int.reduceToNat,tl3,Int.reduceBNe,Int.reduceBEq,rmK,rm1,not_true_eq_false,Int.toNat_natCast,getD_mapT hi2,hwi,decide_eq_true_eq,decide_eq_false_iff_not,Bool.or_eq_true,Bool.or_eq_false_iff,Bool.and_eq_true,Bool.and_eq_false_iff]
  refine ⟨by omega,fun h4=>?_,fun h4=>?_⟩
  ·have:valOk r.vals[i] = false:=by
    simp only [valOk,okV,Bool.or_eq_false_iff,Bool.and_eq_false_iff,beq_eq_false_iff_ne,decide_eq_false_iff_not]
    simp only [bne_iff_ne] at h4
    omega
   rw [rlsE,if_neg (by omega),if_neg (fun e=>e h2),if_neg (fun e=>e h3),if_pos (List.all_eq_false.2 ⟨_,List.getElem_mem hi2,by simp [this]⟩)]
   refine .of [] [] rfl (by first | rfl | (rw [hst];rfl)) ?_ ?_
   all_goals (try exact clA)
  ·refine ⟨i + 1,⟨by omega,?_⟩,by omega,?_⟩
   ·rw [take_snoc hi2,List.all_append,hi.2]
    simp only [List.all_cons,List.all_nil,Bool.and_true,Bool.true_and,valOk,okV,Bool.or_eq_true,Bool.and_eq_true,beq_iff_eq,decide_eq_true_eq]
    simp only [bne_eq_false_iff_eq] at h4
    omega
   ·refine .of [] [] rfl (by first | rfl | (rw [hst];rfl)) ?_ ?_
    all_goals (try exact clA)
 ·have hi2:i = r.vals.length:=by omega
  subst hi2
  have h4:=hi.2
  rw [List.take_length] at h4
  rw [rlsE,if_neg (by omega),if_neg (fun e=>e h2),if_neg (fun e=>e h3),if_neg (by rw [h4];simp)]
  refine .of [] [] rfl (by first | rfl | (rw [hst];rfl)) ?_ ?_
  all_goals (try exact clA)
theorem c_ref29_Check (sz:List Int) (l:List Rls) (hl:sz.length < 4611686018427387904) (hll:l.length < 4611686018427387904) (hr:∀ r∈l,RlsSm r):Spc Tryd.prog F_ref29_Check [spT sz,vRs l] [] (vI (rlsC sz l)) []:=by
 refine spec_of_ir fn_ref29_Check mixm (by simp) fun e _ hst=>W_start ?_
 unfold ir_ref29_Check
 refine sW ?_
 refine C1.shut [] (c_ref28_Check sz hl) ?_ (by rfl) rfl ?_
 ·simp only [ltSto,ltO2,ltO1,ltAs,ltA,ltC,ltC0,ltC0s,ltCs,ltT,ltFr,ltS,wrOk,wrO,TL.get,hasFr,↓reduceIte,Nat.reduceEqDiff,reduceCtorEq,Option.getD_some,Option.isSome_some,List.length_map,List.length_append,List.length_cons,List.length_nil,List.append_nil,List.mem_singleton,List.mem_cons,List.not_mem_nil,and_true,true_and,and_self,imp_self,forall_const,false_implies,implies_true,true_implies,or_false,Bool.false_eq_true,Bool.true_eq_false,ImXs_nil,true_or,or_true,false_or,false_and,and_false,rmK,rm1]
 simp only [tl,tl2,tl4,↓un_u,isCallR,entX,argFr,ret,retI,retB,intT,unT,endR,ressR,resR,tupT,bslR,boxR,lenAll,↓reduceIte,Nat.reduceEqDiff,Nat.reduceAdd,Nat.reduceMul,Nat.reduceLT,Nat.reduceLeDiff,reduceCtorEq,Int.reduceLE,Int.reduceLT,ne_eq,Int.reduceEq,not_false_eq_true,decide_true,decide_false,Int.reduceToNat,tl3,Int.reduceBNe,Int.reduceBEq,rmK,rm1,not_true_eq_false,bne_iff_ne,bne_eq_false_iff_eq,decide_eq_true_eq,decide_eq_false_iff_not,Bool.or_eq_true,Bool.or_eq_false_iff,Bool.and_eq_true,Bool.and_eq_false_iff]
 refine ⟨fun h=>?_,fun h=>⟨fun h2=>?_,fun h2=>?_⟩⟩
 ·rw [rlsC,if_pos h]
  refine .of [] [] rfl (by first | rfl | (rw [hst];rfl)) ?_ ?_
  all_goals (try exact clA)
 ·rw [rlsC,if_neg (fun e=>e h),if_pos (by omega)]
  refine .of [] [] rfl (by first | rfl | (rw [hst];rfl)) ?_ ?_
  all_goals (try exact clA)
 have hC:rlsC sz l = rlsF sz l (-1):=by rw [rlsC,if_neg (fun e=>e h),if_neg (by omega)]
 rw [hC]
 obtain ⟨bf,hbf⟩:∃ bf:Nat→Int,bf = fun i=>if i = 0 then -1 else (l.getD (i - 1) default).num:=⟨_,rfl⟩
 refine W_loopF mixm (α:=Nat) [6,20] (fun i=>i≤l.length∧(rlsF sz (l.take i) (-1) = 0)) (fun i=>[(6,vI (bf i)),(20,vI i)]) (fun i=>[(4096,.arr 1 [spT sz] false)]) (fun i=>l.length - i) 0 ⟨by omega,?_⟩ ?_ fun i hi=>?_
 ·simp [rlsF]
 ·rw [hbf]
  refine .of [(4096,some 4096)] [] rfl (by first | rfl | (rw [hst];rfl)) ?_ ?_
  all_goals (try exact clA)
 simp only [tl,tl2,tl4,↓un_u,isCallR,entX,argFr,ret,retI,retB,intT,unT,endR,ressR,resR,tupT,bslR,boxR,lenAll,↓reduceIte,Nat.reduceEqDiff,Nat.reduceAdd,Nat.reduceMul,Nat.reduceLT,Nat.reduceLeDiff,reduceCtorEq,Int.reduceLE,Int.reduceLT,ne_eq,Int.reduceEq,not_false_eq_true,decide_true,decide_false,Int.reduceToNat,tl3,Int.reduceBNe,Int.reduceBEq,rmK,rm1,not_true_eq_false,decide_eq_true_eq,decide_eq_false_iff_not]
 refine ⟨fun h=>?_,fun h=>?_⟩
 ·have hri:=hr _ (List.getElem_mem (show i < l.length by omega))
  have hsn:=rlsF_snoc (sz:=sz) (show i < l.length by omega) hi.2
  have hb1:bf (i + 1) = (l[i]'(by omega)).num:=by rw [hbf];simp only [Nat.add_sub_cancel];rw [if_neg (by omega),getD_get (by omega)]
  have hbb : -1≤bf i:=by
   rw [hbf]
   dsimp only
   split
   ·omega
   ·have hm:l[i - 1]'(by omega)∈l.take i:=List.mem_take_iff_getElem.2 ⟨i - 1,by omega,rfl⟩
    have:=(rlsF_mem hi.2 (by omega) _ hm).num
    rw [getD_get (by omega)]
    omega
  rw [show (if i = 0 then (-1:Int) else (l.getD (i - 1) default).num) = bf i by rw [hbf]] at hsn
  have hi2:i < l.length:=by omega
  have hwi:=i64_succ (i:=i) (by omega)
  simp only [tl,tl2,tl4,↓un_u,isCallR,entX,argFr,ret,retI,retB,intT,unT,endR,ressR,resR,tupT,bslR,boxR,lenAll,↓reduceIte,Nat.reduceEqDiff,Nat.reduceAdd,Nat.reduceMul,Nat.reduceLT,Nat.reduceLeDiff,reduceCtorEq,Int.reduceLE,Int.reduceLT,ne_eq,Int.reduceEq,not_false_eq_true,decide_true,decide_false,Int.reduceToNat,tl3,Int.reduceBNe,Int.reduceBEq,rmK,rm1,not_true_eq_false,Int.toNat_natCast,getD_mapT hi2,hwi]
  refine ⟨by omega,?_⟩
  refine C1.shut [] (c_ref29_release sz l[i] (bf i) hbb hl hri) ?_ (by rfl) rfl ?_
  ·simp only [ltSto,ltO2,ltO1,ltAs,ltA,ltC,ltC0,ltC0s,ltCs,ltT,ltFr,ltS,wrOk,wrO,TL.get,hasFr,↓reduceIte,Nat.reduceEqDiff,reduceCtorEq,Option.getD_some,Option.isSome_some,List.length_map,List.length_append,List.length_cons,List.length_nil,List.append_nil,List.mem_singleton,List.mem_cons,List.not_mem_nil,and_true,true_and,and_self,imp_self,forall_const,false_implies,implies_true,true_implies,or_false,Bool.false_eq_true,Bool.true_eq_false,ImXs_nil,true_or,or_true,false_or,false_and,and_false,rmK,rm1]
  rw [← hsn]
  simp only [tl,tl2,tl4,↓un_u,isCallR,entX,argFr,ret,retI,retB,intT,unT,endR,ressR,resR,tupT,bslR,boxR,lenAll,↓reduceIte,Nat.reduceEqDiff,Nat.reduceAdd,Nat.reduceMul,Nat.reduceLT,Nat.reduceLeDiff,reduceCtorEq,Int.reduceLE,Int.reduceLT,ne_eq,Int.reduceEq,not_false_eq_true,decide_true,decide_false,Int.reduceToNat,tl3,Int.reduceBNe,Int.reduceBEq,rmK,rm1,not_true_eq_false,bne_iff_ne,bne_eq_false_iff_eq]
  refine ⟨fun h3=>?_,fun h3=>⟨i + 1,⟨by omega,h3⟩,by omega,?_⟩⟩
  ·rw [rlsF_stays h3]
   refine .of [] [] rfl (by first | rfl | (rw [hst];rfl)) ?_ ?_
   all_goals (try exact clA)
  ·rw [← hb1]
   refine .of [(4096,some 4096)] [] rfl (by first | rfl | (rw [hst];rfl)) ?_ ?_
   all_goals (try exact clA)
 ·have hi2:i = l.length:=by omega
  subst hi2
  have h3:=hi.2
  rw [List.take_length] at h3
  rw [h3]
  refine .of [] [] rfl (by first | rfl | (rw [hst];rfl)) ?_ ?_
  all_goals (try exact clA)
theorem c_ref29_All (sz:List Int) (l:List Rls) (hl:sz.length < 4611686018427387904) (hll:l.length < 4611686018427387904) (hr:∀ r∈l,RlsSm r) :
 Spc Tryd.prog F_ref29_All [spT sz,vRs l] [] (.tup [vQs (allA sz l).1,vI (allA sz l).2]) []:=by
 refine spec_of_ir fn_ref29_All mixm (by simp) fun e _ hst=>W_start ?_
 unfold ir_ref29_All
 refine sW ?_
 refine C1.shut [] (c_ref29_Check sz l hl hll hr) ?_ (by rfl) rfl ?_
 ·all_goals (try exact clA)
 simp only [tl,tl2,tl4,↓un_u,isCallR,entX,argFr,ret,retI,retB,intT,unT,endR,ressR,resR,tupT,bslR,boxR,lenAll,↓reduceIte,Nat.reduceEqDiff,Nat.reduceAdd,Nat.reduceMul,Nat.reduceLT,Nat.reduceLeDiff,reduceCtorEq,Int.reduceLE,Int.reduceLT,ne_eq,Int.reduceEq,not_false_eq_true,decide_true,decide_false,Int.reduceToNat,tl3,Int.reduceBNe,Int.reduceBEq,rmK,rm1,not_true_eq_false,bne_iff_ne,bne_eq_false_iff_eq]
 refine ⟨fun h=>?_,fun h=>?_⟩
 ·rw [allA,if_pos h]
  refine .of [] [] rfl (by first | rfl | (rw [hst];rfl)) ?_ ?_
  all_goals (try exact clA)
 obtain ⟨h1,h2,h3⟩:=rlsC_mem h
 rw [allA,if_neg (fun e=>e h)]
 have hlen:∀ i,(tells sz (l.take i)).length≤24000000:=fun i=>by
  have:=tells_len (sz:=sz) (l:=l.take i) fun x hx=>hr x (List.mem_of_mem_take hx)
  rw [List.length_take] at this
  omega
 refine W_loopF mixm (α:=Nat) [7,22] (fun i=>i≤l.length) (fun i=>[(7,.asl 1 (tells sz (l.take i)).length),(22,vI i)]) (fun i=>[(4096,.arr 1 [spT sz] false),(1,.arr 2 ((tells sz (l.take i)).map eqnT) false)]) (fun i=>l.length - i) 0 (by omega) ?_ fun i hi=>?_
 ·refine .of [(4096,some 4096),(1,none)] [] rfl (by first | rfl | (rw [hst];rfl)) ?_ ?_
  all_goals (try exact clA)
 have hli:=hlen i
 simp only [tl,tl2,tl4,↓un_u,isCallR,entX,argFr,ret,retI,retB,intT,unT,endR,ressR,resR,tupT,bslR,boxR,lenAll,↓reduceIte,Nat.reduceEqDiff,Nat.reduceAdd,Nat.reduceMul,Nat.reduceLT,Nat.reduceLeDiff,reduceCtorEq,Int.reduceLE,Int.reduceLT,ne_eq,Int.reduceEq,not_false_eq_true,decide_true,decide_false,Int.reduceToNat,tl3,Int.reduceBNe,Int.reduceBEq,rmK,rm1,not_true_eq_false,decide_eq_true_eq,decide_eq_false_iff_not]
 refine ⟨fun h=>?_,fun h=>?_⟩
 ·have hsn:=tells_snoc (sz:=sz) (show i < l.length by omega)
  have hok:=h3 _ (List.getElem_mem (show i < l.length by omega))
  have hsm:=hr _ (List.getElem_mem (show i < l.length by omega))
  have hi2:i < l.length:=by omega
  have hwi:=i64_succ (i:=i) (by omega)
  simp only [tl,tl2,tl4,↓un_u,isCallR,entX,argFr,ret,retI,retB,intT,unT,endR,ressR,resR,tupT,bslR,boxR,lenAll,↓reduceIte,Nat.reduceEqDiff,Nat.reduceAdd,Nat.reduceMul,Nat.reduceLT,Nat.reduceLeDiff,reduceCtorEq,Int.reduceLE,Int.reduceLT,ne_eq,Int.reduceEq,not_false_eq_true,decide_true,decide_false,Int.reduceToNat,tl3,Int.reduceBNe,Int.reduceBEq,rmK,rm1,not_true_eq_false,Int.toNat_natCast,getD_mapT hi2,hwi]
  refine ⟨by omega,?_⟩
  generalize l[i] = r at *
  have hr3:=hsm.vals
  have hlenv:=hok.len
  have hvs:=hok.vw.sp.len
  have hgl:=hok.vw.len
  obtain ⟨q,hq⟩:∃ q:Nat→List Eqn,q = fun j=>tells sz (l.take i) ++ tellF sz r.gs (r.vals.take j) 0:=⟨_,rfl⟩
  have hq0:q 0 = tells sz (l.take i):=by rw [hq];simp [tellF]
  have hqe:q r.vals.length = tells sz (l.take (i + 1)):=by rw [hq,hsn];simp only [List.take_length,tell]
  have hql:∀ j,(q j).length≤24000000 + 1000000:=fun j=>by
   rw [hq]
   have:=tell_take_len sz r j
   simp only [List.length_append]
   omega
  rw [← hq0]
  refine W_loopF mixm (α:=Nat) [7,29] (fun j=>j≤r.vals.length) (fun j=>[(7,.asl 1 (q j).length),(29,vI j)]) (fun j=>[(4096,.arr 1 [spT sz] false),(32776,.arr 3 [rlsT r] false),(1,.arr 2 ((q j).map eqnT) false)]) (fun j=>r.vals.length - j) 0 (by omega) ?_ fun j hj=>?_
  ·refine .of [(4096,some 4096),(32776,some 32776),(1,some 1)] [] rfl (by first | rfl | (rw [hst];rfl)) ?_ ?_
   all_goals (try exact clA)
  have hqj:=hql j
  have hqj2:=hql (j + 1)
  simp only [tl,tl2,tl4,↓un_u,isCallR,entX,argFr,ret,retI,retB,intT,unT,endR,ressR,resR,tupT,bslR,boxR,lenAll,↓reduceIte,Nat.reduceEqDiff,Nat.reduceAdd,Nat.reduceMul,Nat.reduceLT,Nat.reduceLeDiff,reduceCtorEq,Int.reduceLE,Int.reduceLT,ne_eq,Int.reduceEq,not_false_eq_true,decide_true,decide_false,Int.reduceToNat,tl3,Int.reduceBNe,Int.reduceBEq,rmK,rm1,not_true_eq_false,decide_eq_true_eq,decide_eq_false_iff_not]
  refine ⟨fun h=>?_,fun h=>?_⟩
  ·have hsn2:q (j + 1) = q j ++ (if r.vals[j]'(by omega) = -1 then [] else [⟨membL sz r.gs j,r.vals[j]'(by omega)⟩]):=by
    rw [hq]
    simp only [tell_snoc (sz:=sz) (gs:=r.gs) (show j < r.vals.length by omega),List.append_assoc]
   have hj2:j < r.vals.length:=by omega
   have hwj:=i64_succ (i:=j) (by omega)
   simp only [tl,tl2,tl4,↓un_u,isCallR,entX,argFr,ret,retI,retB,intT,unT,endR,ressR,resR,tupT,bslR,boxR,lenAll,↓reduceIte,Nat.reduceEqDiff,Nat.reduceAdd,Nat.reduceMul,Nat.reduceLT,Nat.reduceLeDiff,reduceCtorEq,Int.reduceLE,Int.reduceLT,ne_eq,Int.reduceEq,not_false_eq_true,decide_true,decide_false,Int.reduceToNat,tl3,Int.reduceBNe,Int.reduceBEq,rmK,rm1,not_true_eq_false,Int.toNat_natCast,getD_mapT hj2,hwj,bne_iff_ne,bne_eq_false_iff_eq]
   refine ⟨by omega,fun h4=>?_,fun h4=>?_⟩
   ·rw [if_neg h4] at hsn2
    have hm:membA sz r.gs j = (membL sz r.gs j,0):=by
     rw [membA,if_neg (fun e=>e (viewE_ok.2 hok.vw)),if_neg (by omega)]
    refine C1.shut [] (c_ref28_Members (sz:=sz) (gs:=r.gs) (j:Int) (by omega) (by omega) hsm.g) ?_ (by rfl) rfl ?_
    ·simp only [ltSto,ltO2,ltO1,ltAs,ltA,ltC,ltC0,ltC0s,ltCs,ltT,ltFr,ltS,wrOk,wrO,TL.get,hasFr,↓reduceIte,Nat.reduceEqDiff,reduceCtorEq,Option.getD_some,Option.isSome_some,List.length_map,List.length_append,List.length_cons,List.length_nil,List.append_nil,List.mem_singleton,List.mem_cons,List.not_mem_nil,and_true,true_and,and_self,imp_self,forall_const,false_implies,implies_true,true_implies,or_false,Bool.false_eq_true,Bool.true_eq_false,ImXs_nil,true_or,or_true,false_or,false_and,and_false,rmK,rm1]
    rw [hm]
    refine sW ?_
    refine ⟨by omega,j + 1,by omega,by omega,?_⟩
    rw [hsn2]
    refine .of [(4096,some 4096),(32776,some 32776),(1,some 1)] [] rfl (by first | rfl | (rw [hst];rfl)) ?_ ?_
    all_goals (try simp only [ltSto,ltO2,ltO1,ltAs,ltA,ltC,ltC0,ltC0s,ltCs,ltT,ltFr,ltS,wrOk,wrO,TL.get,hasFr,↓reduceIte,Nat.reduceEqDiff,reduceCtorEq,Option.getD_some,Option.isSome_some,List.length_map,List.length_append,List.length_cons,List.length_nil,List.append_nil,List.mem_singleton,List.mem_cons,List.not_mem_nil,and_true,true_and,and_self,imp_self,forall_const,false_implies,implies_true,true_implies,or_false,Bool.false_eq_true,Bool.true_eq_false,ImXs_nil,true_or,or_true,false_or,false_and,and_false,rmK,rm1,List.map_append,List.map_cons,List.map_nil,List.cons_append,List.nil_append,List.length_append,List.length_cons,List.length_nil])
    all_goals (try (repeat' (first | exact ltXs_nil | (apply ltXs_map;intro _;exact ⟨rfl,rfl⟩) | (apply imXs_map;intro _;exact ⟨rfl,rfl⟩) | with_reducible apply imXs_append | with_reducible refine imXs_cons ⟨rfl,rfl⟩ ?_ | exact imXs_nil | with_reducible apply ltXs_append | with_reducible refine ltXs_cons ⟨rfl,rfl,?_⟩ ?_ | with_reducible apply And.intro | exact ltCs_im rfl | exact ltCs_im (by assumption) | (refine ⟨⟨?_,rfl,?_,rfl,?_⟩,trivial⟩ <;> first | (simp;done) | (apply imXs_map;intro _;exact ⟨rfl,rfl⟩)) | trivial | rfl | (rw [i64_succ (by omega)]) | omega)))
   ·rw [if_pos h4,List.append_nil] at hsn2
    refine ⟨j + 1,by omega,by omega,?_⟩
    rw [hsn2]
    refine .of [(4096,some 4096),(32776,some 32776),(1,some 1)] [] rfl (by first | rfl | (rw [hst];rfl)) ?_ ?_
    all_goals (try exact clA)
  ·have hj2:j = r.vals.length:=by omega
   subst hj2
   have hwi:=i64_succ (i:=i) (by omega)
   rw [hqe]
   refine ⟨i + 1,by omega,by omega,?_⟩
   refine .of [(4096,some 4096),(1,some 1)] [] rfl (by first | rfl | (rw [hst];rfl)) ?_ ?_
   all_goals (try exact clA)
 ·have hi2:i = l.length:=by omega
  subst hi2
  rw [List.take_length]
  refine .of [] [1] rfl (by first | rfl | (rw [hst];rfl)) ?_ ?_
  all_goals (try exact clA)
theorem c_ref29_Of (sz:List Int) (r:Rls) (hl:sz.length < 4611686018427387904) (hr:RlsSm r) :
 Spc Tryd.prog F_ref29_Of [spT sz,rlsT r] [] (.tup [vQs (allA sz [r]).1,vI (allA sz [r]).2]) []:=by
 refine spec_of_ir fn_ref29_Of mixm (by simp) fun e _ hst=>W_start ?_
 unfold ir_ref29_Of
 refine sW ?_
 refine C1.shut [8200] (c_ref29_All sz [r] hl (by simp) (fun x hx=>by simp only [List.mem_cons,List.not_mem_nil,or_false] at hx;rw [hx];exact hr)) ?_ (by rfl) rfl ?_
 ·all_goals (try exact clA)
 refine sW ?_
 refine .of [] [] rfl (by first | rfl | (rw [hst];rfl)) ?_ ?_
 all_goals (try exact clA)
end Go.Proofs
