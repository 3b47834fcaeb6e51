import Derived.Test.YtgdfndldfmjfhaaDoorH29
set_option linter.unusedSimpArgs false
set_option linter.unusedVariables false
namespace Go.Proofs
open Go Go.TL
theorem getD_vv {gs:List (List Int)} {i:Nat} (h:i < gs.length):(gs.map vIs).getD i .junk = vIs gs[i]:=getD_mapT h
theorem gN_le {l:List Int} (h:∀ x∈l,x≤1000):∀ i,i≤l.length→0≤gN (l.take i)∧gN (l.take i)≤1001
 | 0,_=>by simp [gN]
 | i + 1,hi=>by
   have ih:=gN_le h i (by omega)
   have:=h _ (List.getElem_mem (show i < l.length by omega))
   rw [g_snoc (by omega)]
   unfold maxI
   split <;> omega
theorem c_ref28_Groups (l:List Int) (hx0:∀ x∈l,-1≤x∧x≤1000) (hl:l.length < 1000000):Spc Tryd.prog F_ref28_Groups [vIs l] [] (vI (gN l)) []:=by
 refine spec_of_ir fn_ref28_Groups mixm (by simp) fun e _ hst=>W_start ?_
 unfold ir_ref28_Groups
 refine sW ?_
 refine W_loopF mixm (α:=Nat) [3,8] (fun i=>i≤l.length) (fun i=>[(3,vI (gN (l.take i))),(8,vI i)]) (fun i=>[]) (fun i=>l.length - i) 0 (by omega) ?_ fun i hi=>?_
 ·refine .of [] [] rfl (by first | rfl | (rw [hst];rfl)) ?_ ?_
  all_goals (try exact clA)
 simp only [tl,tl2,tl4,↓un_u,isCallR,entX,argFr,ret,retI,retB,intT,unT,endR,ressR,resR,tupT,bslR,boxR,lenAll,↓reduceIte,Nat.reduceEqDiff,Nat.reduceAdd,Nat.reduceMul,Nat.reduceLT,Nat.reduceLeDiff,reduceCtorEq,Int.reduceLE,Int.reduceLT,ne_eq,Int.reduceEq,not_false_eq_true,decide_true,decide_false,Int.reduceToNat,tl3,Int.reduceBNe,Int.reduceBEq,rmK,rm1,not_true_eq_false,decide_eq_true_eq,decide_eq_false_iff_not]
 refine ⟨fun h=>?_,fun h=>?_⟩
 ·have hx:=hx0 _ (List.getElem_mem (show i < l.length by omega))
  have hw:IntKind.i64.wrap (l[i]'(by omega) + 1) = l[i]'(by omega) + 1:=IntWalk.i64_in _ (by omega)
  have hi2:i < l.length:=by omega
  have hwi:=i64_succ (i:=i) (by omega)
  simp only [tl,tl2,tl4,↓un_u,isCallR,entX,argFr,ret,retI,retB,intT,unT,endR,ressR,resR,tupT,bslR,boxR,lenAll,↓reduceIte,Nat.reduceEqDiff,Nat.reduceAdd,Nat.reduceMul,Nat.reduceLT,Nat.reduceLeDiff,reduceCtorEq,Int.reduceLE,Int.reduceLT,ne_eq,Int.reduceEq,not_false_eq_true,decide_true,decide_false,Int.reduceToNat,tl3,Int.reduceBNe,Int.reduceBEq,rmK,rm1,not_true_eq_false,Int.toNat_natCast,getD_mapT hi2,hwi,hw]
  refine ⟨by omega,i + 1,by omega,by omega,?_⟩
  rw [g_snoc hi2]
  refine .of [] [] rfl (by first | rfl | (rw [hst];rfl)) ?_ ?_
  all_goals (try exact clA)
 ·have hi2:i = l.length:=by omega
  subst hi2
  rw [List.take_length]
  exact .imR rfl rfl
def nbB (l:List Int):Bool:=match nbF l with | some n=>decide (n > 0) | none=>false
theorem nb_le {l:List Int} {i:Nat} {n:Int} (hi:i≤l.length) (h:nbF (l.take i) = some n):0≤n∧n≤i:=by
 have:=(nb_ok hi h).pos
 rw [List.length_take] at this
 omega
theorem c_cells_numbered (l:List Int) (hl:l.length < 4611686018427387904):Spc Tryd.prog F_cells_numbered [vIs l] [] (vB (nbB l)) []:=by
 refine spec_of_ir fn_cells_numbered mixm (by simp) fun e _ hst=>W_start ?_
 unfold ir_cells_numbered
 refine sW ?_
 refine W_loopF mixm (α:=Nat×Int) [3,8] (fun x=>x.1≤l.length∧nbF (l.take x.1) = some x.2) (fun x=>[(3,vI x.2),(8,vI x.1)]) (fun _=>[]) (fun x=>l.length - x.1) (0,0) ⟨by simp,rfl⟩ ?_ fun x hx=>?_
 ·refine .of [] [] rfl (by first | rfl | (rw [hst];rfl)) ?_ ?_
  all_goals (try exact clA)
 obtain ⟨i,n⟩:=x
 obtain ⟨hi,hn⟩:=hx
 dsimp only at hi hn
 have hb:=nb_le hi hn
 simp only [tl,tl2,tl4,↓un_u,isCallR,entX,argFr,ret,retI,retB,intT,unT,endR,ressR,resR,tupT,bslR,boxR,lenAll,↓reduceIte,Nat.reduceEqDiff,Nat.reduceAdd,Nat.reduceMul,Nat.reduceLT,Nat.reduceLeDiff,reduceCtorEq,Int.reduceLE,Int.reduceLT,ne_eq,Int.reduceEq,not_false_eq_true,decide_true,decide_false,Int.reduceToNat,tl3,Int.reduceBNe,Int.reduceBEq,rmK,rm1,not_true_eq_false,decide_eq_true_eq,decide_eq_false_iff_not]
 refine ⟨fun h=>?_,fun h=>?_⟩
 ·have hs:=nb_snoc (l:=l) (i:=i) (by omega)
  rw [hn] at hs
  have hw:IntKind.i64.wrap (n + 1) = n + 1:=IntWalk.i64_in _ (by omega)
  have hi2:i < l.length:=by omega
  have hwi:=i64_succ (i:=i) (by omega)
  simp only [tl,tl2,tl4,↓un_u,isCallR,entX,argFr,ret,retI,retB,intT,unT,endR,ressR,resR,tupT,bslR,boxR,lenAll,↓reduceIte,Nat.reduceEqDiff,Nat.reduceAdd,Nat.reduceMul,Nat.reduceLT,Nat.reduceLeDiff,reduceCtorEq,Int.reduceLE,Int.reduceLT,ne_eq,Int.reduceEq,not_false_eq_true,decide_true,decide_false,Int.reduceToNat,tl3,Int.reduceBNe,Int.reduceBEq,rmK,rm1,not_true_eq_false,Int.toNat_natCast,getD_mapT hi2,hwi,decide_eq_true_eq,decide_eq_false_iff_not,Bool.or_eq_true,Bool.or_eq_false_iff,Bool.and_eq_true,Bool.and_eq_false_iff,beq_iff_eq,beq_eq_false_iff_ne,hw]
  refine ⟨by omega,fun h3=>?_,fun h3=>⟨fun h4=>?_,fun h4=>?_⟩⟩
  ·have e:nbF l = none:=nb_stays (i:=i + 1) (by rw [hs];simp only [nbStep];rw [if_pos h3])
   unfold nbB
   rw [e]
   exact .imR rfl rfl
  ·simp only [nbStep] at hs
   rw [if_neg (by omega),if_pos h4] at hs
   refine ⟨(i + 1,n + 1),⟨by simp only;omega,hs⟩,by simp only;omega,?_⟩
   refine .of [] [] rfl (by first | rfl | (rw [hst];rfl)) ?_ ?_
   all_goals (try exact clA)
  ·simp only [nbStep] at hs
   rw [if_neg (by omega),if_neg h4] at hs
   refine ⟨(i + 1,n),⟨by simp only;omega,hs⟩,by simp only;omega,?_⟩
   refine .of [] [] rfl (by first | rfl | (rw [hst];rfl)) ?_ ?_
   all_goals (try exact clA)
 ·have hi2:i = l.length:=by omega
  subst hi2
  rw [List.take_length] at hn
  have e:nbB l = decide (n > 0):=by unfold nbB;rw [hn]
  rw [e]
  exact .imR rfl rfl
theorem okG_nbB (k:Int) (g:List Int):okG k g = (((g.length:Int) == k) && nbB g):=rfl
theorem c_cells_View (sz:List Int) (gs:List (List Int)) (hl:sz.length < 4611686018427387904) (hg:gs.length < 4611686018427387904) (hgl:∀ g∈gs,g.length < 1000000):Spc Tryd.prog F_cells_View [spT sz,vwT gs] [] (vI (viewE sz gs)) []:=by
 refine spec_of_ir fn_cells_View mixm (by simp) fun e _ hst=>W_start ?_
 unfold ir_cells_View
 refine sW ?_
 refine C1.shut [] (c_cells_Check sz hl) ?_ (by rfl) rfl ?_
 ·simp only [ltSto,ltO2,ltO1,ltAs,ltA,ltC,ltC0,ltC0s,ltCs,ltT,ltFr,ltS,wrOk,wrO,TL.get,hasFr,↓reduceIte,Nat.reduceEqDiff,reduceCtorEq,Option.getD_some,Option.isSome_some,List.length_map,List.length_append,List.length_cons,List.length_nil,List.append_nil,List.mem_singleton,List.mem_cons,List.not_mem_nil,and_true,true_and,and_self,imp_self,forall_const,false_implies,implies_true,true_implies,or_false,Bool.false_eq_true,Bool.true_eq_false,ImXs_nil,true_or,or_true,false_or,false_and,and_false,rmK,rm1]
 simp only [tl,tl2,tl4,↓un_u,isCallR,entX,argFr,ret,retI,retB,intT,unT,endR,ressR,resR,tupT,bslR,boxR,lenAll,↓reduceIte,Nat.reduceEqDiff,Nat.reduceAdd,Nat.reduceMul,Nat.reduceLT,Nat.reduceLeDiff,reduceCtorEq,Int.reduceLE,Int.reduceLT,ne_eq,Int.reduceEq,not_false_eq_true,decide_true,decide_false,Int.reduceToNat,tl3,Int.reduceBNe,Int.reduceBEq,rmK,rm1,not_true_eq_false,bne_iff_ne,bne_eq_false_iff_eq]
 refine ⟨fun h=>?_,fun hk0=>⟨fun h2=>?_,fun h2=>?_⟩⟩
 ·rw [viewE,if_pos h]
  exact .imR rfl rfl
 ·rw [viewE,if_neg (fun e=>e hk0),if_pos (by omega)]
  exact .imR rfl rfl
 have hlen:gs.length = sz.length:=by omega
 have hsp:=chkS_ok.1 hk0
 refine W_loopF mixm (α:=Nat) [23] (fun i=>i≤gs.length∧(okGs (sz.take i) (gs.take i) = true)) (fun i=>[(23,vI i)]) (fun i=>[(4096,.arr 1 [spT sz] false)]) (fun i=>gs.length - i) 0 ⟨by omega,?_⟩ ?_ fun i hi=>?_
 ·rfl
 ·refine .of [(4096,some 4096)] [] rfl (by first | rfl | (rw [hst];rfl)) ?_ ?_
  all_goals (try exact clA)
 simp only [tl,tl2,tl4,↓un_u,isCallR,entX,argFr,ret,retI,retB,intT,unT,endR,ressR,resR,tupT,bslR,boxR,lenAll,↓reduceIte,Nat.reduceEqDiff,Nat.reduceAdd,Nat.reduceMul,Nat.reduceLT,Nat.reduceLeDiff,reduceCtorEq,Int.reduceLE,Int.reduceLT,ne_eq,Int.reduceEq,not_false_eq_true,decide_true,decide_false,Int.reduceToNat,tl3,Int.reduceBNe,Int.reduceBEq,rmK,rm1,not_true_eq_false,decide_eq_true_eq,decide_eq_false_iff_not]
 refine ⟨fun h=>?_,fun h=>?_⟩
 ·have hs2:i < sz.length:=by omega
  have hgm:=hgl _ (List.getElem_mem (show i < gs.length by omega))
  have hi2:i < gs.length:=by omega
  have hwi:=i64_succ (i:=i) (by omega)
  simp only [tl,tl2,tl4,↓un_u,isCallR,entX,argFr,ret,retI,retB,intT,unT,endR,ressR,resR,tupT,bslR,boxR,lenAll,↓reduceIte,Nat.reduceEqDiff,Nat.reduceAdd,Nat.reduceMul,Nat.reduceLT,Nat.reduceLeDiff,reduceCtorEq,Int.reduceLE,Int.reduceLT,ne_eq,Int.reduceEq,not_false_eq_true,decide_true,decide_false,Int.reduceToNat,tl3,Int.reduceBNe,Int.reduceBEq,rmK,rm1,not_true_eq_false,Int.toNat_natCast,getD_mapT hi2,hwi,getD_mapT hs2]
  have hcn:=c_cells_numbered gs[i] (by omega)
  refine ⟨by omega,by omega,C2.im (fun _=>hcn) (fun _=>rfl) (by rfl) ?_⟩
  simp only [tl,tl2,tl4,↓un_u,isCallR,entX,argFr,ret,retI,retB,intT,unT,endR,ressR,resR,tupT,bslR,boxR,lenAll,↓reduceIte,Nat.reduceEqDiff,Nat.reduceAdd,Nat.reduceMul,Nat.reduceLT,Nat.reduceLeDiff,reduceCtorEq,Int.reduceLE,Int.reduceLT,ne_eq,Int.reduceEq,not_false_eq_true,decide_true,decide_false,Int.reduceToNat,tl3,Int.reduceBNe,Int.reduceBEq,rmK,rm1,not_true_eq_false,decide_eq_true_eq,decide_eq_false_iff_not,Bool.or_eq_true,Bool.or_eq_false_iff,Bool.and_eq_true,Bool.and_eq_false_iff,bne_iff_ne,bne_eq_false_iff_eq,Bool.not_eq_false']
  refine ⟨fun h3=>?_,fun h3=>⟨i + 1,⟨by omega,?_⟩,by omega,?_⟩⟩
  ·have hf:okG sz[i] gs[i] = false:=by
    rw [okG_nbB,Bool.and_eq_false_iff]
    rcases h3 with h3 | h3
    ·exact .inl (by simpa using h3)
    ·exact .inr h3
   rw [viewE,if_neg (fun e=>e hk0),if_neg (by omega),if_neg (by rw [okGs_false hlen hs2 hf];simp)]
   refine .of [] [] rfl (by first | rfl | (rw [hst];rfl)) ?_ ?_
   all_goals (try exact clA)
  ·rw [okGs_snoc hs2 hi2,hi.2,okG_nbB,h3.2,Bool.true_and,Bool.and_true]
   simpa using h3.1
  ·refine .of [(4096,some 4096)] [] rfl (by first | rfl | (rw [hst];rfl)) ?_ ?_
   all_goals (try exact clA)
 ·have hi2:i = gs.length:=by omega
  subst hi2
  have h3:=hi.2
  rw [List.take_length,List.take_of_length_le (by omega)] at h3
  rw [viewE,if_neg (fun e=>e hk0),if_neg (by omega),if_pos h3]
  refine .of [] [] rfl (by first | rfl | (rw [hst];rfl)) ?_ ?_
  all_goals (try exact clA)
theorem c_ref28_View (sz:List Int) (gs:List (List Int)) (hl:sz.length < 4611686018427387904) (hg:gs.length < 4611686018427387904) (hgl:∀ g∈gs,g.length < 1000000):Spc Tryd.prog F_ref28_View [spT sz,vwT gs] [] (vI (viewE sz gs)) []:=by
 refine spec_of_ir fn_ref28_View mixm (by simp) fun e _ hst=>W_start ?_
 unfold ir_ref28_View
 refine sW ?_
 refine C1.shut [] (c_ref28_Check sz hl) ?_ (by rfl) rfl ?_
 ·simp only [ltSto,ltO2,ltO1,ltAs,ltA,ltC,ltC0,ltC0s,ltCs,ltT,ltFr,ltS,wrOk,wrO,TL.get,hasFr,↓reduceIte,Nat.reduceEqDiff,reduceCtorEq,Option.getD_some,Option.isSome_some,List.length_map,List.length_append,List.length_cons,List.length_nil,List.append_nil,List.mem_singleton,List.mem_cons,List.not_mem_nil,and_true,true_and,and_self,imp_self,forall_const,false_implies,implies_true,true_implies,or_false,Bool.false_eq_true,Bool.true_eq_false,ImXs_nil,true_or,or_true,false_or,false_and,and_false,rmK,rm1]
 simp only [tl,tl2,tl4,↓un_u,isCallR,entX,argFr,ret,retI,retB,intT,unT,endR,ressR,resR,tupT,bslR,boxR,lenAll,↓reduceIte,Nat.reduceEqDiff,Nat.reduceAdd,Nat.reduceMul,Nat.reduceLT,Nat.reduceLeDiff,reduceCtorEq,Int.reduceLE,Int.reduceLT,ne_eq,Int.reduceEq,not_false_eq_true,decide_true,decide_false,Int.reduceToNat,tl3,Int.reduceBNe,Int.reduceBEq,rmK,rm1,not_true_eq_false,bne_iff_ne,bne_eq_false_iff_eq]
 refine ⟨fun h=>?_,fun hk0=>⟨fun h2=>?_,fun h2=>?_⟩⟩
 ·rw [viewE,if_pos h]
  exact .imR rfl rfl
 ·rw [viewE,if_neg (fun e=>e hk0),if_pos (by omega)]
  exact .imR rfl rfl
 have hlen:gs.length = sz.length:=by omega
 have hsp:=chkS_ok.1 hk0
 refine W_loopF mixm (α:=Nat) [26] (fun i=>i≤gs.length∧(okGs (sz.take i) (gs.take i) = true)) (fun i=>[(26,vI i)]) (fun i=>[(4096,.arr 1 [spT sz] false)]) (fun i=>gs.length - i) 0 ⟨by omega,?_⟩ ?_ fun i hi=>?_
 ·rfl
 ·refine .of [(4096,some 4096)] [] rfl (by first | rfl | (rw [hst];rfl)) ?_ ?_
  all_goals (try exact clA)
 simp only [tl,tl2,tl4,↓un_u,isCallR,entX,argFr,ret,retI,retB,intT,unT,endR,ressR,resR,tupT,bslR,boxR,lenAll,↓reduceIte,Nat.reduceEqDiff,Nat.reduceAdd,Nat.reduceMul,Nat.reduceLT,Nat.reduceLeDiff,reduceCtorEq,Int.reduceLE,Int.reduceLT,ne_eq,Int.reduceEq,not_false_eq_true,decide_true,decide_false,Int.reduceToNat,tl3,Int.reduceBNe,Int.reduceBEq,rmK,rm1,not_true_eq_false,decide_eq_true_eq,decide_eq_false_iff_not]
 refine ⟨fun h=>?_,fun h=>?_⟩
 ·have hs2:i < sz.length:=by omega
  have hgm:=hgl _ (List.getElem_mem (show i < gs.length by omega))
  have hbad:okG sz[i] (gs[i]'(by omega)) = false→viewE sz gs = 55:=fun hf=>by
   rw [viewE,if_neg (fun e=>e hk0),if_neg (by omega),if_neg (by rw [okGs_false hlen hs2 hf];simp)]
  have hi2:i < gs.length:=by omega
  have hwi:=i64_succ (i:=i) (by omega)
  simp only [tl,tl2,tl4,↓un_u,isCallR,entX,argFr,ret,retI,retB,intT,unT,endR,ressR,resR,tupT,bslR,boxR,lenAll,↓reduceIte,Nat.reduceEqDiff,Nat.reduceAdd,Nat.reduceMul,Nat.reduceLT,Nat.reduceLeDiff,reduceCtorEq,Int.reduceLE,Int.reduceLT,ne_eq,Int.reduceEq,not_false_eq_true,decide_true,decide_false,Int.reduceToNat,tl3,Int.reduceBNe,Int.reduceBEq,rmK,rm1,not_true_eq_false,Int.toNat_natCast,getD_mapT hi2,hwi,getD_mapT hs2,bne_iff_ne,bne_eq_false_iff_eq]
  refine ⟨by omega,by omega,fun h3=>?_,fun h3=>?_⟩
  ·rw [hbad (by rw [okG_nbB,Bool.and_eq_false_iff];exact .inl (by simpa using h3))]
   refine .of [] [] rfl (by first | rfl | (rw [hst];rfl)) ?_ ?_
   all_goals (try exact clA)
  obtain ⟨g,hgd⟩:∃ g,g = gs[i]:=⟨_,rfl⟩
  rw [← hgd] at hgm hbad h3 ⊢
  refine W_loopF mixm (α:=Nat×Int) [8,41] (fun x=>x.1≤g.length∧nbF (g.take x.1) = some x.2) (fun x=>[(8,vI x.2),(41,vI x.1)]) (fun _=>[(4096,.arr 1 [spT sz] false)]) (fun x=>g.length - x.1) (0,0) ⟨by simp,rfl⟩ ?_ fun x hx=>?_
  ·refine .of [(4096,some 4096)] [] rfl (by first | rfl | (rw [hst];rfl)) ?_ ?_
   all_goals (try exact clA)
  obtain ⟨j,n⟩:=x
  obtain ⟨hj,hn⟩:=hx
  dsimp only at hj hn
  have hb:=nb_le hj hn
  refine sD ?_
  refine ⟨fun h5=>?_,fun h5=>?_⟩
  ·have hs:=nb_snoc (l:=g) (i:=j) (by omega)
   rw [hn] at hs
   have hw:IntKind.i64.wrap (n + 1) = n + 1:=IntWalk.i64_in _ (by omega)
   have hj2:j < g.length:=by omega
   have hwj:=i64_succ (i:=j) (by omega)
   simp only [tl,tl2,tl4,↓un_u,isCallR,entX,argFr,ret,retI,retB,intT,unT,endR,ressR,resR,tupT,bslR,boxR,lenAll,↓reduceIte,Nat.reduceEqDiff,Nat.reduceAdd,Nat.reduceMul,Nat.reduceLT,Nat.reduceLeDiff,reduceCtorEq,Int.reduceLE,Int.reduceLT,ne_eq,Int.reduceEq,not_false_eq_true,decide_true,decide_false,Int.reduceToNat,tl3,Int.reduceBNe,Int.reduceBEq,rmK,rm1,not_true_eq_false,Int.toNat_natCast,getD_mapT hj2,hwj,decide_eq_true_eq,decide_eq_false_iff_not,Bool.or_eq_true,Bool.or_eq_false_iff,Bool.and_eq_true,Bool.and_eq_false_iff,beq_iff_eq,beq_eq_false_iff_ne,hw]
   refine ⟨by omega,fun h6=>?_,fun h6=>⟨fun h7=>?_,fun h7=>?_⟩⟩
   ·have e:nbF g = none:=nb_stays (i:=j + 1) (by rw [hs];simp only [nbStep];rw [if_pos h6])
    rw [hbad (by unfold okG;rw [e];simp)]
    refine .of [] [] rfl (by first | rfl | (rw [hst];rfl)) ?_ ?_
    all_goals (try exact clA)
   ·simp only [nbStep] at hs
    rw [if_neg (by omega),if_pos h7] at hs
    refine ⟨(j + 1,n + 1),⟨by simp only;omega,hs⟩,by simp only;omega,?_⟩
    refine .of [(4096,some 4096)] [] rfl (by first | rfl | (rw [hst];rfl)) ?_ ?_
    all_goals (try exact clA)
   ·simp only [nbStep] at hs
    rw [if_neg (by omega),if_neg h7] at hs
    refine ⟨(j + 1,n),⟨by simp only;omega,hs⟩,by simp only;omega,?_⟩
    refine .of [(4096,some 4096)] [] rfl (by first | rfl | (rw [hst];rfl)) ?_ ?_
    all_goals (try exact clA)
  ·have hj2:j = g.length:=by omega
   subst hj2
   rw [List.take_length] at hn
   simp only [tl,tl2,tl4,↓un_u,isCallR,entX,argFr,ret,retI,retB,intT,unT,endR,ressR,resR,tupT,bslR,boxR,lenAll,↓reduceIte,Nat.reduceEqDiff,Nat.reduceAdd,Nat.reduceMul,Nat.reduceLT,Nat.reduceLeDiff,reduceCtorEq,Int.reduceLE,Int.reduceLT,ne_eq,Int.reduceEq,not_false_eq_true,decide_true,decide_false,Int.reduceToNat,tl3,Int.reduceBNe,Int.reduceBEq,rmK,rm1,not_true_eq_false,beq_iff_eq,beq_eq_false_iff_ne]
   refine ⟨fun h6=>?_,fun h6=>?_⟩
   ·rw [hbad (by unfold okG;rw [hn];simp;omega)]
    refine .of [] [] rfl (by first | rfl | (rw [hst];rfl)) ?_ ?_
    all_goals (try exact clA)
   ·refine ⟨i + 1,⟨by omega,?_⟩,by omega,?_⟩
    ·rw [okGs_snoc hs2 hi2,hi.2,← hgd]
     unfold okG
     rw [hn]
     simp only [Bool.true_and,Bool.and_eq_true,beq_iff_eq,decide_eq_true_eq]
     omega
    ·refine .of [(4096,some 4096)] [] rfl (by first | rfl | (rw [hst];rfl)) ?_ ?_
     all_goals (try exact clA)
 ·have hi2:i = gs.length:=by omega
  subst hi2
  have h3:=hi.2
  rw [List.take_length,List.take_of_length_le (by omega)] at h3
  rw [viewE,if_neg (fun e=>e hk0),if_neg (by omega),if_pos h3]
  refine .of [] [] rfl (by first | rfl | (rw [hst];rfl)) ?_ ?_
  all_goals (try exact clA)
end Go.Proofs
