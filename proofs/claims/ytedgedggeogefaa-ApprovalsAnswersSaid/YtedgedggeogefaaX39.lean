import Derived.Test.YtedgedggeogefaaL39
import Derived.Test.YtedgedggeogefaaW39
import Derived.Test.YtedgedggeogefaaMod
set_option linter.unusedSimpArgs false
set_option linter.unusedVariables false
namespace Go.Proofs
open Go Go.TL
open Go.TL.So
theorem modI_lt (n:Int) {m:Nat} (h:0 < m):∃ k:Nat,modI n m = k∧k < m:=by
 have h1:=Int.emod_nonneg n (b:=(m:Int)) (by omega)
 have h2:=Int.emod_lt_of_pos n (b:=(m:Int)) (by omega)
 refine ⟨(n % m).toNat,?_,by omega⟩
 rw [modI,if_neg (by omega)]
 omega
theorem apN_le (cs:List UInt8):∀ (n a:Nat) (l:List App),a≤cs.length→(apN cs n a l).2≤cs.length
 | 0,_,_,h=>h
 | n + 1,a,l,h=>apN_le cs n _ _ (apX_le cs a h)
theorem apA_le (cs:List UInt8) (a:Nat) (h:a≤cs.length):(apA cs a).2≤cs.length:=apN_le cs _ _ _ (nx_le cs a 7 h)
theorem endA_len (l:List App) (p:ByteArray) (t:Int):(endA l p t).1.length≤l.length:=by
 unfold endA
 split
 ·simp
 ·split
  ·split
   ·exact List.length_eraseIdx_le _ _
   ·simp
  ·simp
theorem exA_len (l:List App) (u v:Int):(exA l u v).1.length≤l.length:=by
 have h:=exF_len l u v l []
 simp only [List.length_nil,Nat.zero_add] at h
 unfold exA
 split
 ·simp
 ·split
  ·simp
  ·exact h
set_option maxHeartbeats 4000000 in
theorem c_ApprovalsAnswers (raw:List App) (x:App) (project:ByteArray) (time until_:Int) (l:List UInt8) (what:Int) (hr:raw.length < 4611686018427387904) (hp:project.size < 4611686018427387904):Spc Try.prog F_law39_ApprovalsAnswers [vAs raw,appT x,vS project,vI time,vI until_,vL l,vI what] [] (vB true) []:=by
 have hl:(l.take 400).length≤400:=by rw [List.length_take];omega
 generalize hcs:l.take 400 = cs at *
 refine spec_of_cut [16] fn_law39_ApprovalsAnswers mixm (by simp) fun e _ hst=>W_start ?_
 unfold ir_law39_ApprovalsAnswers
 simp only [cutAt,List.contains_cons,List.contains_nil,Nat.reduceBEq,Bool.or_false,Bool.or_true,Bool.true_or,Bool.false_or,cond_true,cond_false]
 simp only [tl,tl2,tl4,↓un_u,isCallR,entX,argFr,ret,retI,retB,intT,unT,endR,ressR,resR,tupT,bslR,boxR,lenAll,↓reduceIte,Nat.reduceEqDiff,Nat.reduceAdd,Nat.reduceMul,Nat.reduceLT,Nat.reduceLeDiff,reduceCtorEq,Int.reduceLE,Int.reduceLT,ne_eq,Int.reduceEq,not_false_eq_true,decide_true,decide_false,Int.reduceToNat,tl3,Int.reduceBNe,Int.reduceBEq,rmK,rm1,not_true_eq_false]
 refine ⟨fun h=>?_,fun h=>?_⟩
 ·refine C1.im c_law39_awake (by rfl) (by rfl) ?_
  simp only [tl,tl2,tl4,↓un_u,isCallR,entX,argFr,ret,retI,retB,intT,unT,endR,ressR,resR,tupT,bslR,boxR,lenAll,↓reduceIte,Nat.reduceEqDiff,Nat.reduceAdd,Nat.reduceMul,Nat.reduceLT,Nat.reduceLeDiff,reduceCtorEq,Int.reduceLE,Int.reduceLT,ne_eq,Int.reduceEq,not_false_eq_true,decide_true,decide_false,Int.reduceToNat,tl3,Int.reduceBNe,Int.reduceBEq,rmK,rm1,not_true_eq_false]
  refine .of [] [] rfl (by first | rfl | (rw [hst];rfl)) ?_ ?_
  all_goals (try exact clA)
 have hb:raw.length≤70∧project.size≤100:=by
  simp only [Bool.or_eq_false_iff,decide_eq_false_iff_not] at h
  omega
 clear h
 have hok:=ok_apA cs 0
 have hap:=c_made_Approvals cs 0 hl (Nat.zero_le _)
 have g1:(apA cs 0).2≤cs.length:=apA_le cs 0 (Nat.zero_le _)
 generalize apA cs 0 = d1 at *
 obtain ⟨mine,a1⟩:=d1
 dsimp only at hok hap g1
 have hml:=hok.len
 refine C1.newdraw 16388 (c_draw_New l) rfl (by rfl) ?_
 simp only [tl,tl2,tl4,↓un_u,isCallR,entX,argFr,ret,retI,retB,intT,unT,endR,ressR,resR,tupT,bslR,boxR,lenAll,↓reduceIte,Nat.reduceEqDiff,Nat.reduceAdd,Nat.reduceMul,Nat.reduceLT,Nat.reduceLeDiff,reduceCtorEq,Int.reduceLE,Int.reduceLT,ne_eq,Int.reduceEq,not_false_eq_true,decide_true,decide_false,Int.reduceToNat,tl3,Int.reduceBNe,Int.reduceBEq,rmK,rm1,not_true_eq_false,hcs]
 refine C1.draw 16388 cs _ _ hap rfl rfl rfl ?_
 simp only [tl,tl2,tl4,↓un_u,isCallR,entX,argFr,ret,retI,retB,intT,unT,endR,ressR,resR,tupT,bslR,boxR,lenAll,↓reduceIte,Nat.reduceEqDiff,Nat.reduceAdd,Nat.reduceMul,Nat.reduceLT,Nat.reduceLeDiff,reduceCtorEq,Int.reduceLE,Int.reduceLT,ne_eq,Int.reduceEq,not_false_eq_true,decide_true,decide_false,Int.reduceToNat,tl3,Int.reduceBNe,Int.reduceBEq,rmK,rm1,not_true_eq_false]
 refine ⟨by omega,fun h=>?_,fun h=>?_⟩
 focus
  have h:0 < mine.length:=by have:=of_decide_eq_true h;omega
  obtain ⟨k1,hk1,hk1l⟩:=modI_lt what h
  have cM1:=c_draw_Mod what mine.length (by omega)
  rw [hk1] at cM1
  have cM2:=c_draw_Mod what 4 (by omega)
  have cM3:=c_draw_Mod what 40 (by omega)
  refine C1.im cM1 (by rfl) (by rfl) ?_
  simp only [tl,tl2,tl4,↓un_u,isCallR,entX,argFr,ret,retI,retB,intT,unT,endR,ressR,resR,tupT,bslR,boxR,lenAll,↓reduceIte,Nat.reduceEqDiff,Nat.reduceAdd,Nat.reduceMul,Nat.reduceLT,Nat.reduceLeDiff,reduceCtorEq,Int.reduceLE,Int.reduceLT,ne_eq,Int.reduceEq,not_false_eq_true,decide_true,decide_false,Int.reduceToNat,tl3,Int.reduceBNe,Int.reduceBEq,rmK,rm1,not_true_eq_false]
  refine C1.im cM2 (by rfl) (by rfl) ?_
  simp only [tl,tl2,tl4,↓un_u,isCallR,entX,argFr,ret,retI,retB,intT,unT,endR,ressR,resR,tupT,bslR,boxR,lenAll,↓reduceIte,Nat.reduceEqDiff,Nat.reduceAdd,Nat.reduceMul,Nat.reduceLT,Nat.reduceLeDiff,reduceCtorEq,Int.reduceLE,Int.reduceLT,ne_eq,Int.reduceEq,not_false_eq_true,decide_true,decide_false,Int.reduceToNat,tl3,Int.reduceBNe,Int.reduceBEq,rmK,rm1,not_true_eq_false]
  have le_odd:∀ odd:List App,odd.length≤71→∃ o2:List App,o2 = odd∧o2.length≤71:=fun odd h=>⟨odd,rfl,h⟩
  have gk:=getD_mapT (f:=appT) hk1l
  refine ⟨fun h2=>?_,fun h2=>?_⟩
  focus
   refine C1.im cM3 (by rfl) (by rfl) ?_
   simp only [tl,tl2,tl4,↓un_u,isCallR,entX,argFr,ret,retI,retB,intT,unT,endR,ressR,resR,tupT,bslR,boxR,lenAll,↓reduceIte,Nat.reduceEqDiff,Nat.reduceAdd,Nat.reduceMul,Nat.reduceLT,Nat.reduceLeDiff,reduceCtorEq,Int.reduceLE,Int.reduceLT,ne_eq,Int.reduceEq,not_false_eq_true,decide_true,decide_false,Int.reduceToNat,tl3,Int.reduceBNe,Int.reduceBEq,rmK,rm1,not_true_eq_false,Int.toNat_natCast,gk]
   refine ⟨⟨by omega,by omega⟩,hk1l,?_⟩
   rw [show (T.agg [vS mine[k1].proj,vS mine[k1].res,T.v (Value.int IntKind.i64 (modI what 40)),vI mine[k1].un]) = appT ⟨mine[k1].proj,mine[k1].res,modI what 40,mine[k1].un⟩ from rfl,← List.map_set]
   obtain ⟨odd,ho,hol⟩:=le_odd (mine.set k1 ⟨mine[k1].proj,mine[k1].res,modI what 40,mine[k1].un⟩) (by simp <;> omega)
   refine W_le [(0,vAs raw),(2,vS project),(3,vI time),(4,vI until_),(8,.ptr 4096 1 0 0),(15,.ptr 16388 1 0 0),(16,vAs mine),(17,vAs odd)] [(4096,.arr 4 [appT x] false),(16388,oC cs a1)] ?_ ?_
   ·have h3:mine.length = odd.length:=by rw [ho];simp
    rw [ho] at h3 ⊢
    rw [h3]
    refine .of [(4096,some 4096),(16388,some 16388)] [24576] rfl (by first | rfl | (rw [hst];rfl)) ?_ ?_
    all_goals (try exact clA)
   clear ho
  rotate_left
  refine ⟨fun h2=>?_,fun h2=>?_⟩
  focus
   refine C1.im cM3 (by rfl) (by rfl) ?_
   simp only [tl,tl2,tl4,↓un_u,isCallR,entX,argFr,ret,retI,retB,intT,unT,endR,ressR,resR,tupT,bslR,boxR,lenAll,↓reduceIte,Nat.reduceEqDiff,Nat.reduceAdd,Nat.reduceMul,Nat.reduceLT,Nat.reduceLeDiff,reduceCtorEq,Int.reduceLE,Int.reduceLT,ne_eq,Int.reduceEq,not_false_eq_true,decide_true,decide_false,Int.reduceToNat,tl3,Int.reduceBNe,Int.reduceBEq,rmK,rm1,not_true_eq_false,Int.toNat_natCast,gk]
   refine ⟨⟨by omega,by omega⟩,hk1l,?_⟩
   rw [show (T.agg [vS mine[k1].proj,vS mine[k1].res,vI mine[k1].fr,T.v (Value.int IntKind.i64 (modI what 40))]) = appT ⟨mine[k1].proj,mine[k1].res,mine[k1].fr,modI what 40⟩ from rfl,← List.map_set]
   obtain ⟨odd,ho,hol⟩:=le_odd (mine.set k1 ⟨mine[k1].proj,mine[k1].res,mine[k1].fr,modI what 40⟩) (by simp <;> omega)
   refine W_le [(0,vAs raw),(2,vS project),(3,vI time),(4,vI until_),(8,.ptr 4096 1 0 0),(15,.ptr 16388 1 0 0),(16,vAs mine),(17,vAs odd)] [(4096,.arr 4 [appT x] false),(16388,oC cs a1)] ?_ ?_
   ·have h3:mine.length = odd.length:=by rw [ho];simp
    rw [ho] at h3 ⊢
    rw [h3]
    refine .of [(4096,some 4096),(16388,some 16388)] [24576] rfl (by first | rfl | (rw [hst];rfl)) ?_ ?_
    all_goals (try exact clA)
   clear ho
  rotate_left
  refine ⟨fun h2=>?_,fun h2=>?_⟩
  focus
   simp only [tl,tl2,tl4,↓un_u,isCallR,entX,argFr,ret,retI,retB,intT,unT,endR,ressR,resR,tupT,bslR,boxR,lenAll,↓reduceIte,Nat.reduceEqDiff,Nat.reduceAdd,Nat.reduceMul,Nat.reduceLT,Nat.reduceLeDiff,reduceCtorEq,Int.reduceLE,Int.reduceLT,ne_eq,Int.reduceEq,not_false_eq_true,decide_true,decide_false,Int.reduceToNat,tl3,Int.reduceBNe,Int.reduceBEq,rmK,rm1,not_true_eq_false,Int.toNat_natCast,gk]
   refine ⟨⟨by omega,by omega⟩,hk1l,?_⟩
   rw [show (T.agg [vS mine[k1].proj,T.v (Value.string ⟨#[]⟩),vI mine[k1].fr,vI mine[k1].un]) = appT ⟨mine[k1].proj,⟨#[]⟩,mine[k1].fr,mine[k1].un⟩ from rfl,← List.map_set]
   obtain ⟨odd,ho,hol⟩:=le_odd (mine.set k1 ⟨mine[k1].proj,⟨#[]⟩,mine[k1].fr,mine[k1].un⟩) (by simp <;> omega)
   refine W_le [(0,vAs raw),(2,vS project),(3,vI time),(4,vI until_),(8,.ptr 4096 1 0 0),(15,.ptr 16388 1 0 0),(16,vAs mine),(17,vAs odd)] [(4096,.arr 4 [appT x] false),(16388,oC cs a1)] ?_ ?_
   ·have h3:mine.length = odd.length:=by rw [ho];simp
    rw [ho] at h3 ⊢
    rw [h3]
    refine .of [(4096,some 4096),(16388,some 16388)] [24576] rfl (by first | rfl | (rw [hst];rfl)) ?_ ?_
    all_goals (try exact clA)
   clear ho
  rotate_left
  focus
   simp only [tl,tl2,tl4,↓un_u,isCallR,entX,argFr,ret,retI,retB,intT,unT,endR,ressR,resR,tupT,bslR,boxR,lenAll,↓reduceIte,Nat.reduceEqDiff,Nat.reduceAdd,Nat.reduceMul,Nat.reduceLT,Nat.reduceLeDiff,reduceCtorEq,Int.reduceLE,Int.reduceLT,ne_eq,Int.reduceEq,not_false_eq_true,decide_true,decide_false,Int.reduceToNat,tl3,Int.reduceBNe,Int.reduceBEq,rmK,rm1,not_true_eq_false,Int.toNat_natCast,gk]
   refine ⟨by omega,hk1l,by omega,?_⟩
   rw [show List.map appT mine ++ [appT mine[k1]] = (mine ++ [mine[k1]]).map appT by simp]
   obtain ⟨odd,ho,hol⟩:=le_odd (mine ++ [mine[k1]]) (by simp <;> omega)
   refine W_le [(0,vAs raw),(2,vS project),(3,vI time),(4,vI until_),(8,.ptr 4096 1 0 0),(15,.ptr 16388 1 0 0),(16,vAs mine),(17,vAs odd)] [(4096,.arr 4 [appT x] false),(16388,oC cs a1)] ?_ ?_
   ·have h3:mine.length + 1 = odd.length:=by rw [ho];simp
    rw [ho] at h3 ⊢
    try rw [h3]
    refine .of [(4096,some 4096),(16388,some 16388)] [24576] rfl (by first | rfl | (rw [hst];rfl)) ?_ ?_
    all_goals (try exact clA)
   clear ho
  clear hk1 hk1l gk cM1 cM2 cM3
 rotate_left 4
 focus
  have le_odd:∀ odd:List App,odd.length≤71→∃ o2:List App,o2 = odd∧o2.length≤71:=fun odd h=>⟨odd,rfl,h⟩
  obtain ⟨odd,ho,hol⟩:=le_odd mine (by omega)
  refine W_le [(0,vAs raw),(2,vS project),(3,vI time),(4,vI until_),(8,.ptr 4096 1 0 0),(15,.ptr 16388 1 0 0),(16,vAs mine),(17,vAs odd)] [(4096,.arr 4 [appT x] false),(16388,oC cs a1)] ?_ ?_
  ·rw [ho]
   refine .of [(4096,some 4096),(16388,some 16388)] [24576] rfl (by first | rfl | (rw [hst];rfl)) ?_ ?_
   all_goals (try exact clA)
  clear ho
 all_goals
  have c1:=c_made_Name cs a1 hl g1
  have g2:=nx_le cs a1 5 g1
  generalize nx cs a1 5 = d2 at *
  have c2:=c_draw_Codes_Next cs d2.2 30 hl g2 (by omega)
  have g3:=nx_le cs d2.2 30 g2
  generalize nx cs d2.2 30 = d3 at *
  have c3:=c_draw_Codes_Next cs d3.2 45 hl g3 (by omega)
  generalize nx cs d3.2 45 = d4 at *
  simp only [tl,tl2,tl4,↓un_u,isCallR,entX,argFr,ret,retI,retB,intT,unT,endR,ressR,resR,tupT,bslR,boxR,lenAll,↓reduceIte,Nat.reduceEqDiff,Nat.reduceAdd,Nat.reduceMul,Nat.reduceLT,Nat.reduceLeDiff,reduceCtorEq,Int.reduceLE,Int.reduceLT,ne_eq,Int.reduceEq,not_false_eq_true,decide_true,decide_false,Int.reduceToNat,tl3,Int.reduceBNe,Int.reduceBEq,rmK,rm1,not_true_eq_false]
  refine C1.draw 16388 cs _ _ c1 rfl rfl rfl ?_
  simp only [tl,tl2,tl4,↓un_u,isCallR,entX,argFr,ret,retI,retB,intT,unT,endR,ressR,resR,tupT,bslR,boxR,lenAll,↓reduceIte,Nat.reduceEqDiff,Nat.reduceAdd,Nat.reduceMul,Nat.reduceLT,Nat.reduceLeDiff,reduceCtorEq,Int.reduceLE,Int.reduceLT,ne_eq,Int.reduceEq,not_false_eq_true,decide_true,decide_false,Int.reduceToNat,tl3,Int.reduceBNe,Int.reduceBEq,rmK,rm1,not_true_eq_false]
  refine C1.draw 16388 cs _ _ c2 rfl rfl rfl ?_
  simp only [tl,tl2,tl4,↓un_u,isCallR,entX,argFr,ret,retI,retB,intT,unT,endR,ressR,resR,tupT,bslR,boxR,lenAll,↓reduceIte,Nat.reduceEqDiff,Nat.reduceAdd,Nat.reduceMul,Nat.reduceLT,Nat.reduceLeDiff,reduceCtorEq,Int.reduceLE,Int.reduceLT,ne_eq,Int.reduceEq,not_false_eq_true,decide_true,decide_false,Int.reduceToNat,tl3,Int.reduceBNe,Int.reduceBEq,rmK,rm1,not_true_eq_false]
  refine C1.draw 16388 cs _ _ c3 rfl rfl rfl ?_
  simp only [tl,tl2,tl4,↓un_u,isCallR,entX,argFr,ret,retI,retB,intT,unT,endR,ressR,resR,tupT,bslR,boxR,lenAll,↓reduceIte,Nat.reduceEqDiff,Nat.reduceAdd,Nat.reduceMul,Nat.reduceLT,Nat.reduceLeDiff,reduceCtorEq,Int.reduceLE,Int.reduceLT,ne_eq,Int.reduceEq,not_false_eq_true,decide_true,decide_false,Int.reduceToNat,tl3,Int.reduceBNe,Int.reduceBEq,rmK,rm1,not_true_eq_false]
  have hR:∀ r∈[raw,mine,odd],r.length≤71:=by intro r hr;simp at hr;rcases hr with h | h | h <;> subst h <;> omega
  have hRl:[raw,mine,odd].length = 3:=rfl
  refine W_loopF mixm (α:=Nat) [112] (fun j=>j≤3) (fun j=>[(112,vI j)]) (fun j=>[(4096,.arr 4 [appT x] false),(69660,.arr 4 [appT ⟨⟨#[112,49]⟩,nmL.getD d2.1.toNat ⟨#[]⟩,d3.1,d4.1⟩] false),(73740,.arr 1 ([raw,mine,odd].map vAs) false)]) (fun j=>3 - j) 0 (by omega) ?_ fun j hj=>?_
  ·refine .of [(4096,some 4096),(69660,some 69660),(73740,some 73740)] [] rfl (by first | rfl | (rw [hst];rfl)) ?_ ?_
   all_goals (try simp only [ltSto,ltO2,ltO1,ltAs,ltA,ltC,ltC0,ltC0s,ltCs,ltT,ltFr,ltS,wrOk,wrO,TL.get,hasFr,↓reduceIte,Nat.reduceEqDiff,reduceCtorEq,Option.getD_some,Option.isSome_some,List.length_map,List.length_append,List.length_cons,List.length_nil,List.append_nil,List.mem_singleton,List.mem_cons,List.not_mem_nil,and_true,true_and,and_self,imp_self,forall_const,false_implies,implies_true,true_implies,or_false,Bool.false_eq_true,Bool.true_eq_false,ImXs_nil,true_or,or_true,false_or,false_and,and_false,rmK,rm1,List.map_append,List.map_cons,List.map_nil,List.cons_append,List.nil_append,List.map_nil])
   all_goals (try (repeat' (first | exact ltXs_nil | (apply ltXs_map;intro _;exact ⟨rfl,rfl⟩) | (apply imXs_map;intro _;exact ⟨rfl,rfl⟩) | with_reducible apply imXs_append | with_reducible refine imXs_cons ⟨rfl,rfl⟩ ?_ | exact imXs_nil | with_reducible apply ltXs_append | with_reducible refine ltXs_cons ⟨rfl,rfl,?_⟩ ?_ | with_reducible apply And.intro | exact ltCs_im rfl | exact ltCs_im (by assumption) | (refine ⟨⟨?_,rfl,?_,rfl,?_⟩,trivial⟩ <;> first | (simp;done) | (apply imXs_map;intro _;exact ⟨rfl,rfl⟩)) | trivial | rfl | (rw [i64_succ (by omega)]) | omega)))
  generalize [raw,mine,odd] = R at *
  generalize (⟨⟨#[112,49]⟩,nmL.getD d2.1.toNat ⟨#[]⟩,d3.1,d4.1⟩:App) = y
  simp only [tl,tl2,tl4,↓un_u,isCallR,entX,argFr,ret,retI,retB,intT,unT,endR,ressR,resR,tupT,bslR,boxR,lenAll,↓reduceIte,Nat.reduceEqDiff,Nat.reduceAdd,Nat.reduceMul,Nat.reduceLT,Nat.reduceLeDiff,reduceCtorEq,Int.reduceLE,Int.reduceLT,ne_eq,Int.reduceEq,not_false_eq_true,decide_true,decide_false,Int.reduceToNat,tl3,Int.reduceBNe,Int.reduceBEq,rmK,rm1,not_true_eq_false,decide_eq_true_eq,decide_eq_false_iff_not]
  refine ⟨fun h3=>?_,fun h3=>?_⟩
  ·have hj2:j < R.length:=by omega
   have hwj:=i64_succ (i:=j) (by omega)
   simp only [tl,tl2,tl4,↓un_u,isCallR,entX,argFr,ret,retI,retB,intT,unT,endR,ressR,resR,tupT,bslR,boxR,lenAll,↓reduceIte,Nat.reduceEqDiff,Nat.reduceAdd,Nat.reduceMul,Nat.reduceLT,Nat.reduceLeDiff,reduceCtorEq,Int.reduceLE,Int.reduceLT,ne_eq,Int.reduceEq,not_false_eq_true,decide_true,decide_false,Int.reduceToNat,tl3,Int.reduceBNe,Int.reduceBEq,rmK,rm1,not_true_eq_false,Int.toNat_natCast,getD_mapT hj2]
   have hrl:=hR R[j] (List.getElem_mem hj2)
   generalize R[j] = r at *
   have b1:=c_approvals_Check r (by omega)
   have b2:=c_ref39_Check r (by omega)
   refine ⟨⟨hRl,by omega,by omega⟩,⟨hRl,hj2⟩,?_⟩
   refine C1.im b1 (by rfl) (by rfl) ?_
   simp only [tl,tl2,tl4,↓un_u,isCallR,entX,argFr,ret,retI,retB,intT,unT,endR,ressR,resR,tupT,bslR,boxR,lenAll,↓reduceIte,Nat.reduceEqDiff,Nat.reduceAdd,Nat.reduceMul,Nat.reduceLT,Nat.reduceLeDiff,reduceCtorEq,Int.reduceLE,Int.reduceLT,ne_eq,Int.reduceEq,not_false_eq_true,decide_true,decide_false,Int.reduceToNat,tl3,Int.reduceBNe,Int.reduceBEq,rmK,rm1,not_true_eq_false]
   refine C1.im b2 (by rfl) (by rfl) ?_
   simp only [tl,tl2,tl4,↓un_u,isCallR,entX,argFr,ret,retI,retB,intT,unT,endR,ressR,resR,tupT,bslR,boxR,lenAll,↓reduceIte,Nat.reduceEqDiff,Nat.reduceAdd,Nat.reduceMul,Nat.reduceLT,Nat.reduceLeDiff,reduceCtorEq,Int.reduceLE,Int.reduceLT,ne_eq,Int.reduceEq,not_false_eq_true,decide_true,decide_false,Int.reduceToNat,tl3,Int.reduceBNe,Int.reduceBEq,rmK,rm1,not_true_eq_false,bne_self_eq_false]
   have hP:[project,⟨#[112,48]⟩,⟨#[112,49]⟩].length = 3:=rfl
   refine W_loopF mixm (α:=Nat) [124] (fun k=>k≤3) (fun k=>[(124,vI k)]) (fun k=>[(4096,.arr 4 [appT x] false),(69660,.arr 4 [appT y] false),(73740,.arr 1 (R.map vAs) false),(94212,.arr 1 ([project,⟨#[112,48]⟩,⟨#[112,49]⟩].map vS) false)]) (fun k=>3 - k) 0 (by omega) ?_ fun k hk=>?_
   ·refine .of [(4096,some 4096),(69660,some 69660),(73740,some 73740),(94212,some 94212)] [] rfl (by first | rfl | (rw [hst];rfl)) ?_ ?_
    all_goals (try simp only [ltSto,ltO2,ltO1,ltAs,ltA,ltC,ltC0,ltC0s,ltCs,ltT,ltFr,ltS,wrOk,wrO,TL.get,hasFr,↓reduceIte,Nat.reduceEqDiff,reduceCtorEq,Option.getD_some,Option.isSome_some,List.length_map,List.length_append,List.length_cons,List.length_nil,List.append_nil,List.mem_singleton,List.mem_cons,List.not_mem_nil,and_true,true_and,and_self,imp_self,forall_const,false_implies,implies_true,true_implies,or_false,Bool.false_eq_true,Bool.true_eq_false,ImXs_nil,true_or,or_true,false_or,false_and,and_false,rmK,rm1,List.map_append,List.map_cons,List.map_nil,List.cons_append,List.nil_append,List.map_nil])
    all_goals (try (repeat' (first | exact ltXs_nil | (apply ltXs_map;intro _;exact ⟨rfl,rfl⟩) | (apply imXs_map;intro _;exact ⟨rfl,rfl⟩) | with_reducible apply imXs_append | with_reducible refine imXs_cons ⟨rfl,rfl⟩ ?_ | exact imXs_nil | with_reducible apply ltXs_append | with_reducible refine ltXs_cons ⟨rfl,rfl,?_⟩ ?_ | with_reducible apply And.intro | exact ltCs_im rfl | exact ltCs_im (by assumption) | (refine ⟨⟨?_,rfl,?_,rfl,?_⟩,trivial⟩ <;> first | (simp;done) | (apply imXs_map;intro _;exact ⟨rfl,rfl⟩)) | trivial | rfl | (rw [i64_succ (by omega)]) | omega)))
   generalize [project,⟨#[112,48]⟩,⟨#[112,49]⟩] = Ps at *
   simp only [tl,tl2,tl4,↓un_u,isCallR,entX,argFr,ret,retI,retB,intT,unT,endR,ressR,resR,tupT,bslR,boxR,lenAll,↓reduceIte,Nat.reduceEqDiff,Nat.reduceAdd,Nat.reduceMul,Nat.reduceLT,Nat.reduceLeDiff,reduceCtorEq,Int.reduceLE,Int.reduceLT,ne_eq,Int.reduceEq,not_false_eq_true,decide_true,decide_false,Int.reduceToNat,tl3,Int.reduceBNe,Int.reduceBEq,rmK,rm1,not_true_eq_false,decide_eq_true_eq,decide_eq_false_iff_not]
   refine ⟨fun h4=>?_,fun h4=>?_⟩
   ·have hk2:k < Ps.length:=by omega
    have hwk:=i64_succ (i:=k) (by omega)
    simp only [tl,tl2,tl4,↓un_u,isCallR,entX,argFr,ret,retI,retB,intT,unT,endR,ressR,resR,tupT,bslR,boxR,lenAll,↓reduceIte,Nat.reduceEqDiff,Nat.reduceAdd,Nat.reduceMul,Nat.reduceLT,Nat.reduceLeDiff,reduceCtorEq,Int.reduceLE,Int.reduceLT,ne_eq,Int.reduceEq,not_false_eq_true,decide_true,decide_false,Int.reduceToNat,tl3,Int.reduceBNe,Int.reduceBEq,rmK,rm1,not_true_eq_false,Int.toNat_natCast,getD_mapT hk2]
    generalize Ps[k] = p at *
    refine ⟨⟨hP,by omega,by omega⟩,⟨hP,hk2⟩,?_⟩
    refine C1.im (c_draw_Mod time 50 (by omega)) (by rfl) (by rfl) ?_
    simp only [tl,tl2,tl4,↓un_u,isCallR,entX,argFr,ret,retI,retB,intT,unT,endR,ressR,resR,tupT,bslR,boxR,lenAll,↓reduceIte,Nat.reduceEqDiff,Nat.reduceAdd,Nat.reduceMul,Nat.reduceLT,Nat.reduceLeDiff,reduceCtorEq,Int.reduceLE,Int.reduceLT,ne_eq,Int.reduceEq,not_false_eq_true,decide_true,decide_false,Int.reduceToNat,tl3,Int.reduceBNe,Int.reduceBEq,rmK,rm1,not_true_eq_false]
    have hT:[time,modI time 50].length = 2:=rfl
    refine W_loopF mixm (α:=Nat) [133] (fun m=>m≤2) (fun m=>[(133,vI m)]) (fun m=>[(4096,.arr 4 [appT x] false),(69660,.arr 4 [appT y] false),(73740,.arr 1 (R.map vAs) false),(94212,.arr 1 (Ps.map vS) false),(106508,.arr 1 ([time,modI time 50].map vI) false)]) (fun m=>2 - m) 0 (by omega) ?_ fun m hm=>?_
    ·refine .of [(4096,some 4096),(69660,some 69660),(73740,some 73740),(94212,some 94212),(106508,some 106508)] [] rfl (by first | rfl | (rw [hst];rfl)) ?_ ?_
     all_goals (try simp only [ltSto,ltO2,ltO1,ltAs,ltA,ltC,ltC0,ltC0s,ltCs,ltT,ltFr,ltS,wrOk,wrO,TL.get,hasFr,↓reduceIte,Nat.reduceEqDiff,reduceCtorEq,Option.getD_some,Option.isSome_some,List.length_map,List.length_append,List.length_cons,List.length_nil,List.append_nil,List.mem_singleton,List.mem_cons,List.not_mem_nil,and_true,true_and,and_self,imp_self,forall_const,false_implies,implies_true,true_implies,or_false,Bool.false_eq_true,Bool.true_eq_false,ImXs_nil,true_or,or_true,false_or,false_and,and_false,rmK,rm1,List.map_append,List.map_cons,List.map_nil,List.cons_append,List.nil_append,List.map_nil])
     all_goals (try (repeat' (first | exact ltXs_nil | (apply ltXs_map;intro _;exact ⟨rfl,rfl⟩) | (apply imXs_map;intro _;exact ⟨rfl,rfl⟩) | with_reducible apply imXs_append | with_reducible refine imXs_cons ⟨rfl,rfl⟩ ?_ | exact imXs_nil | with_reducible apply ltXs_append | with_reducible refine ltXs_cons ⟨rfl,rfl,?_⟩ ?_ | with_reducible apply And.intro | exact ltCs_im rfl | exact ltCs_im (by assumption) | (refine ⟨⟨?_,rfl,?_,rfl,?_⟩,trivial⟩ <;> first | (simp;done) | (apply imXs_map;intro _;exact ⟨rfl,rfl⟩)) | trivial | rfl | (rw [i64_succ (by omega)]) | omega)))
    generalize [time,modI time 50] = Ts at *
    simp only [tl,tl2,tl4,↓un_u,isCallR,entX,argFr,ret,retI,retB,intT,unT,endR,ressR,resR,tupT,bslR,boxR,lenAll,↓reduceIte,Nat.reduceEqDiff,Nat.reduceAdd,Nat.reduceMul,Nat.reduceLT,Nat.reduceLeDiff,reduceCtorEq,Int.reduceLE,Int.reduceLT,ne_eq,Int.reduceEq,not_false_eq_true,decide_true,decide_false,Int.reduceToNat,tl3,Int.reduceBNe,Int.reduceBEq,rmK,rm1,not_true_eq_false,decide_eq_true_eq,decide_eq_false_iff_not]
    refine ⟨fun h5=>?_,fun h5=>?_⟩
    ·have hm2:m < Ts.length:=by omega
     have hwm:=i64_succ (i:=m) (by omega)
     simp only [tl,tl2,tl4,↓un_u,isCallR,entX,argFr,ret,retI,retB,intT,unT,endR,ressR,resR,tupT,bslR,boxR,lenAll,↓reduceIte,Nat.reduceEqDiff,Nat.reduceAdd,Nat.reduceMul,Nat.reduceLT,Nat.reduceLeDiff,reduceCtorEq,Int.reduceLE,Int.reduceLT,ne_eq,Int.reduceEq,not_false_eq_true,decide_true,decide_false,Int.reduceToNat,tl3,Int.reduceBNe,Int.reduceBEq,rmK,rm1,not_true_eq_false,Int.toNat_natCast,getD_mapT hm2]
     generalize Ts[m] = t at *
     refine ⟨⟨hT,by omega,by omega⟩,⟨hT,hm2⟩,?_⟩
     have e1:=c_approvals_Active r p t (by omega)
     have e2:=c_ref39_Active r p t (by omega)
     have e3:=c_approvals_End r p t (by omega)
     have e4:=c_ref39_End r p t (by omega)
     have e5:=c_ref39_Same (endA r p t).1 (endA r p t).1 (by have:=endA_len r p t;omega) (by have:=endA_len r p t;omega)
     rw [sameL_refl eqA_refl] at e5
     refine C1.im e1 (by rfl) (by rfl) ?_
     simp only [tl,tl2,tl4,↓un_u,isCallR,entX,argFr,ret,retI,retB,intT,unT,endR,ressR,resR,tupT,bslR,boxR,lenAll,↓reduceIte,Nat.reduceEqDiff,Nat.reduceAdd,Nat.reduceMul,Nat.reduceLT,Nat.reduceLeDiff,reduceCtorEq,Int.reduceLE,Int.reduceLT,ne_eq,Int.reduceEq,not_false_eq_true,decide_true,decide_false,Int.reduceToNat,tl3,Int.reduceBNe,Int.reduceBEq,rmK,rm1,not_true_eq_false]
     refine C1.im e2 (by rfl) (by rfl) ?_
     simp only [tl,tl2,tl4,↓un_u,isCallR,entX,argFr,ret,retI,retB,intT,unT,endR,ressR,resR,tupT,bslR,boxR,lenAll,↓reduceIte,Nat.reduceEqDiff,Nat.reduceAdd,Nat.reduceMul,Nat.reduceLT,Nat.reduceLeDiff,reduceCtorEq,Int.reduceLE,Int.reduceLT,ne_eq,Int.reduceEq,not_false_eq_true,decide_true,decide_false,Int.reduceToNat,tl3,Int.reduceBNe,Int.reduceBEq,rmK,rm1,not_true_eq_false]
     refine C1.freshT 126988 e3 (by rfl) (by rfl) (by apply imXs_map;intro _;exact ⟨rfl,rfl⟩) (by rfl) ?_
     simp only [tl,tl2,tl4,↓un_u,isCallR,entX,argFr,ret,retI,retB,intT,unT,endR,ressR,resR,tupT,bslR,boxR,lenAll,↓reduceIte,Nat.reduceEqDiff,Nat.reduceAdd,Nat.reduceMul,Nat.reduceLT,Nat.reduceLeDiff,reduceCtorEq,Int.reduceLE,Int.reduceLT,ne_eq,Int.reduceEq,not_false_eq_true,decide_true,decide_false,Int.reduceToNat,tl3,Int.reduceBNe,Int.reduceBEq,rmK,rm1,not_true_eq_false]
     refine C1.freshT 131084 e4 (by rfl) (by rfl) (by apply imXs_map;intro _;exact ⟨rfl,rfl⟩) (by rfl) ?_
     simp only [tl,tl2,tl4,↓un_u,isCallR,entX,argFr,ret,retI,retB,intT,unT,endR,ressR,resR,tupT,bslR,boxR,lenAll,↓reduceIte,Nat.reduceEqDiff,Nat.reduceAdd,Nat.reduceMul,Nat.reduceLT,Nat.reduceLeDiff,reduceCtorEq,Int.reduceLE,Int.reduceLT,ne_eq,Int.reduceEq,not_false_eq_true,decide_true,decide_false,Int.reduceToNat,tl3,Int.reduceBNe,Int.reduceBEq,rmK,rm1,not_true_eq_false,bne_self_eq_false,beq_self_eq_true]
     refine C2.lend [126988,131084] (fun _=>e5) ?_ (by rfl) (by rfl) ?_
     ·intro _
      all_goals (try exact clA)
     simp only [tl,tl2,tl4,↓un_u,isCallR,entX,argFr,ret,retI,retB,intT,unT,endR,ressR,resR,tupT,bslR,boxR,lenAll,↓reduceIte,Nat.reduceEqDiff,Nat.reduceAdd,Nat.reduceMul,Nat.reduceLT,Nat.reduceLeDiff,reduceCtorEq,Int.reduceLE,Int.reduceLT,ne_eq,Int.reduceEq,not_false_eq_true,decide_true,decide_false,Int.reduceToNat,tl3,Int.reduceBNe,Int.reduceBEq,rmK,rm1,not_true_eq_false,bne_self_eq_false,beq_self_eq_true]
     refine ⟨m + 1,by omega,by omega,?_⟩
     rw [hwm]
     refine .of [(4096,some 4096),(69660,some 69660),(73740,some 73740),(94212,some 94212),(106508,some 106508)] [] rfl (by first | rfl | (rw [hst];rfl)) ?_ ?_
     all_goals (try exact clA)
    ·refine ⟨k + 1,by omega,by omega,?_⟩
     rw [hwk]
     refine .of [(4096,some 4096),(69660,some 69660),(73740,some 73740),(94212,some 94212)] [] rfl (by first | rfl | (rw [hst];rfl)) ?_ ?_
     all_goals (try exact clA)
   have hZ:[x,y].length = 2:=rfl
   refine W_loopF mixm (α:=Nat) [190] (fun k=>k≤2) (fun k=>[(190,vI k)]) (fun k=>[(4096,.arr 4 [appT x] false),(69660,.arr 4 [appT y] false),(73740,.arr 1 (R.map vAs) false),(151560,.arr 4 ([x,y].map appT) false)]) (fun k=>2 - k) 0 (by omega) ?_ fun k hk=>?_
   ·refine .of [(4096,some 4096),(69660,some 69660),(73740,some 73740),(151560,some 151560)] [] rfl (by first | rfl | (rw [hst];rfl)) ?_ ?_
    all_goals (try simp only [ltSto,ltO2,ltO1,ltAs,ltA,ltC,ltC0,ltC0s,ltCs,ltT,ltFr,ltS,wrOk,wrO,TL.get,hasFr,↓reduceIte,Nat.reduceEqDiff,reduceCtorEq,Option.getD_some,Option.isSome_some,List.length_map,List.length_append,List.length_cons,List.length_nil,List.append_nil,List.mem_singleton,List.mem_cons,List.not_mem_nil,and_true,true_and,and_self,imp_self,forall_const,false_implies,implies_true,true_implies,or_false,Bool.false_eq_true,Bool.true_eq_false,ImXs_nil,true_or,or_true,false_or,false_and,and_false,rmK,rm1,List.map_append,List.map_cons,List.map_nil,List.cons_append,List.nil_append,List.map_nil])
    all_goals (try (repeat' (first | exact ltXs_nil | (apply ltXs_map;intro _;exact ⟨rfl,rfl⟩) | (apply imXs_map;intro _;exact ⟨rfl,rfl⟩) | with_reducible apply imXs_append | with_reducible refine imXs_cons ⟨rfl,rfl⟩ ?_ | exact imXs_nil | with_reducible apply ltXs_append | with_reducible refine ltXs_cons ⟨rfl,rfl,?_⟩ ?_ | with_reducible apply And.intro | exact ltCs_im rfl | exact ltCs_im (by assumption) | (refine ⟨⟨?_,rfl,?_,rfl,?_⟩,trivial⟩ <;> first | (simp;done) | (apply imXs_map;intro _;exact ⟨rfl,rfl⟩)) | trivial | rfl | (rw [i64_succ (by omega)]) | omega)))
   generalize [x,y] = Zs at *
   simp only [tl,tl2,tl4,↓un_u,isCallR,entX,argFr,ret,retI,retB,intT,unT,endR,ressR,resR,tupT,bslR,boxR,lenAll,↓reduceIte,Nat.reduceEqDiff,Nat.reduceAdd,Nat.reduceMul,Nat.reduceLT,Nat.reduceLeDiff,reduceCtorEq,Int.reduceLE,Int.reduceLT,ne_eq,Int.reduceEq,not_false_eq_true,decide_true,decide_false,Int.reduceToNat,tl3,Int.reduceBNe,Int.reduceBEq,rmK,rm1,not_true_eq_false,decide_eq_true_eq,decide_eq_false_iff_not]
   refine ⟨fun h4=>?_,fun h4=>?_⟩
   ·have hk2:k < Zs.length:=by omega
    have hwk:=i64_succ (i:=k) (by omega)
    simp only [tl,tl2,tl4,↓un_u,isCallR,entX,argFr,ret,retI,retB,intT,unT,endR,ressR,resR,tupT,bslR,boxR,lenAll,↓reduceIte,Nat.reduceEqDiff,Nat.reduceAdd,Nat.reduceMul,Nat.reduceLT,Nat.reduceLeDiff,reduceCtorEq,Int.reduceLE,Int.reduceLT,ne_eq,Int.reduceEq,not_false_eq_true,decide_true,decide_false,Int.reduceToNat,tl3,Int.reduceBNe,Int.reduceBEq,rmK,rm1,not_true_eq_false,Int.toNat_natCast,getD_mapT hk2]
    generalize Zs[k] = z at *
    refine ⟨⟨hZ,by omega,by omega⟩,⟨hZ,hk2⟩,?_⟩
    have e1:=c_approvals_Add r z (by omega)
    have e2:=c_ref39_Add r z (by omega)
    have e3:=c_ref39_Same (addA r z).1 (addA r z).1 (by have:=addA_len r z;omega) (by have:=addA_len r z;omega)
    rw [sameL_refl eqA_refl] at e3
    refine C1.freshT 163852 e1 (by rfl) (by rfl) (by apply imXs_map;intro _;exact ⟨rfl,rfl⟩) (by rfl) ?_
    simp only [tl,tl2,tl4,↓un_u,isCallR,entX,argFr,ret,retI,retB,intT,unT,endR,ressR,resR,tupT,bslR,boxR,lenAll,↓reduceIte,Nat.reduceEqDiff,Nat.reduceAdd,Nat.reduceMul,Nat.reduceLT,Nat.reduceLeDiff,reduceCtorEq,Int.reduceLE,Int.reduceLT,ne_eq,Int.reduceEq,not_false_eq_true,decide_true,decide_false,Int.reduceToNat,tl3,Int.reduceBNe,Int.reduceBEq,rmK,rm1,not_true_eq_false]
    refine C1.freshT 167948 e2 (by rfl) (by rfl) (by apply imXs_map;intro _;exact ⟨rfl,rfl⟩) (by rfl) ?_
    simp only [tl,tl2,tl4,↓un_u,isCallR,entX,argFr,ret,retI,retB,intT,unT,endR,ressR,resR,tupT,bslR,boxR,lenAll,↓reduceIte,Nat.reduceEqDiff,Nat.reduceAdd,Nat.reduceMul,Nat.reduceLT,Nat.reduceLeDiff,reduceCtorEq,Int.reduceLE,Int.reduceLT,ne_eq,Int.reduceEq,not_false_eq_true,decide_true,decide_false,Int.reduceToNat,tl3,Int.reduceBNe,Int.reduceBEq,rmK,rm1,not_true_eq_false,bne_self_eq_false,beq_self_eq_true]
    refine C1.lend [163852,167948] e3 ?_ (by rfl) (by rfl) ?_
    ·all_goals (try exact clA)
    simp only [tl,tl2,tl4,↓un_u,isCallR,entX,argFr,ret,retI,retB,intT,unT,endR,ressR,resR,tupT,bslR,boxR,lenAll,↓reduceIte,Nat.reduceEqDiff,Nat.reduceAdd,Nat.reduceMul,Nat.reduceLT,Nat.reduceLeDiff,reduceCtorEq,Int.reduceLE,Int.reduceLT,ne_eq,Int.reduceEq,not_false_eq_true,decide_true,decide_false,Int.reduceToNat,tl3,Int.reduceBNe,Int.reduceBEq,rmK,rm1,not_true_eq_false,bne_self_eq_false,beq_self_eq_true]
    refine ⟨k + 1,by omega,by omega,?_⟩
    rw [hwk]
    refine .of [(4096,some 4096),(69660,some 69660),(73740,some 73740),(151560,some 151560)] [] rfl (by first | rfl | (rw [hst];rfl)) ?_ ?_
    all_goals (try exact clA)
   ·have cM30:=c_draw_Mod time 30 (by omega)
    have cM31:=c_draw_Mod until_ 30 (by omega)
    refine C1.im cM30 (by rfl) (by rfl) ?_
    simp only [tl,tl2,tl4,↓un_u,isCallR,entX,argFr,ret,retI,retB,intT,unT,endR,ressR,resR,tupT,bslR,boxR,lenAll,↓reduceIte,Nat.reduceEqDiff,Nat.reduceAdd,Nat.reduceMul,Nat.reduceLT,Nat.reduceLeDiff,reduceCtorEq,Int.reduceLE,Int.reduceLT,ne_eq,Int.reduceEq,not_false_eq_true,decide_true,decide_false,Int.reduceToNat,tl3,Int.reduceBNe,Int.reduceBEq,rmK,rm1,not_true_eq_false]
    refine C1.im cM30 (by rfl) (by rfl) ?_
    simp only [tl,tl2,tl4,↓un_u,isCallR,entX,argFr,ret,retI,retB,intT,unT,endR,ressR,resR,tupT,bslR,boxR,lenAll,↓reduceIte,Nat.reduceEqDiff,Nat.reduceAdd,Nat.reduceMul,Nat.reduceLT,Nat.reduceLeDiff,reduceCtorEq,Int.reduceLE,Int.reduceLT,ne_eq,Int.reduceEq,not_false_eq_true,decide_true,decide_false,Int.reduceToNat,tl3,Int.reduceBNe,Int.reduceBEq,rmK,rm1,not_true_eq_false]
    refine C1.im cM31 (by rfl) (by rfl) ?_
    simp only [tl,tl2,tl4,↓un_u,isCallR,entX,argFr,ret,retI,retB,intT,unT,endR,ressR,resR,tupT,bslR,boxR,lenAll,↓reduceIte,Nat.reduceEqDiff,Nat.reduceAdd,Nat.reduceMul,Nat.reduceLT,Nat.reduceLeDiff,reduceCtorEq,Int.reduceLE,Int.reduceLT,ne_eq,Int.reduceEq,not_false_eq_true,decide_true,decide_false,Int.reduceToNat,tl3,Int.reduceBNe,Int.reduceBEq,rmK,rm1,not_true_eq_false]
    have hW:[(time,until_),(modI time 30,IntKind.i64.wrap (modI time 30 + modI until_ 30))].length = 2:=rfl
    refine W_loopF mixm (α:=Nat) [229] (fun k=>k≤2) (fun k=>[(229,vI k)]) (fun k=>[(4096,.arr 4 [appT x] false),(69660,.arr 4 [appT y] false),(73740,.arr 1 (R.map vAs) false),(184364,.arr 2 ([(time,until_),(modI time 30,IntKind.i64.wrap (modI time 30 + modI until_ 30))].map fun w:Int×Int=>T.agg [vI w.1,vI w.2]) false)]) (fun k=>2 - k) 0 (by omega) ?_ fun k hk=>?_
    ·refine .of [(4096,some 4096),(69660,some 69660),(73740,some 73740),(184364,some 184364)] [] rfl (by first | rfl | (rw [hst];rfl)) ?_ ?_
     all_goals (try simp only [ltSto,ltO2,ltO1,ltAs,ltA,ltC,ltC0,ltC0s,ltCs,ltT,ltFr,ltS,wrOk,wrO,TL.get,hasFr,↓reduceIte,Nat.reduceEqDiff,reduceCtorEq,Option.getD_some,Option.isSome_some,List.length_map,List.length_append,List.length_cons,List.length_nil,List.append_nil,List.mem_singleton,List.mem_cons,List.not_mem_nil,and_true,true_and,and_self,imp_self,forall_const,false_implies,implies_true,true_implies,or_false,Bool.false_eq_true,Bool.true_eq_false,ImXs_nil,true_or,or_true,false_or,false_and,and_false,rmK,rm1,List.map_append,List.map_cons,List.map_nil,List.cons_append,List.nil_append,List.map_nil])
     all_goals (try (repeat' (first | exact ltXs_nil | (apply ltXs_map;intro _;exact ⟨rfl,rfl⟩) | (apply imXs_map;intro _;exact ⟨rfl,rfl⟩) | with_reducible apply imXs_append | with_reducible refine imXs_cons ⟨rfl,rfl⟩ ?_ | exact imXs_nil | with_reducible apply ltXs_append | with_reducible refine ltXs_cons ⟨rfl,rfl,?_⟩ ?_ | with_reducible apply And.intro | exact ltCs_im rfl | exact ltCs_im (by assumption) | (refine ⟨⟨?_,rfl,?_,rfl,?_⟩,trivial⟩ <;> first | (simp;done) | (apply imXs_map;intro _;exact ⟨rfl,rfl⟩)) | trivial | rfl | (rw [i64_succ (by omega)]) | omega)))
    generalize [(time,until_),(modI time 30,IntKind.i64.wrap (modI time 30 + modI until_ 30))] = Ws at *
    simp only [tl,tl2,tl4,↓un_u,isCallR,entX,argFr,ret,retI,retB,intT,unT,endR,ressR,resR,tupT,bslR,boxR,lenAll,↓reduceIte,Nat.reduceEqDiff,Nat.reduceAdd,Nat.reduceMul,Nat.reduceLT,Nat.reduceLeDiff,reduceCtorEq,Int.reduceLE,Int.reduceLT,ne_eq,Int.reduceEq,not_false_eq_true,decide_true,decide_false,Int.reduceToNat,tl3,Int.reduceBNe,Int.reduceBEq,rmK,rm1,not_true_eq_false,decide_eq_true_eq,decide_eq_false_iff_not]
    refine ⟨fun h4=>?_,fun h4=>?_⟩
    ·have hk2:k < Ws.length:=by omega
     have hwk:=i64_succ (i:=k) (by omega)
     simp only [tl,tl2,tl4,↓un_u,isCallR,entX,argFr,ret,retI,retB,intT,unT,endR,ressR,resR,tupT,bslR,boxR,lenAll,↓reduceIte,Nat.reduceEqDiff,Nat.reduceAdd,Nat.reduceMul,Nat.reduceLT,Nat.reduceLeDiff,reduceCtorEq,Int.reduceLE,Int.reduceLT,ne_eq,Int.reduceEq,not_false_eq_true,decide_true,decide_false,Int.reduceToNat,tl3,Int.reduceBNe,Int.reduceBEq,rmK,rm1,not_true_eq_false,Int.toNat_natCast,getD_mapT hk2]
     generalize Ws[k] = w at *
     obtain ⟨u,v⟩:=w
     refine ⟨⟨hW,by omega,by omega⟩,⟨hW,hk2⟩,by omega,by omega,?_⟩
     have e1:=c_approvals_Expired r u v (by omega)
     have e2:=c_ref39_Expired r u v (by omega)
     have e3:=c_ref36_Texts (exA r u v).1 (exA r u v).1 (by have:=exA_len r u v;omega) (by have:=exA_len r u v;omega)
     rw [sameL_refl fun q=>(eqS_iff q q).2 rfl] at e3
     refine C1.im e1 (by rfl) (by rfl) ?_
     simp only [tl,tl2,tl4,↓un_u,isCallR,entX,argFr,ret,retI,retB,intT,unT,endR,ressR,resR,tupT,bslR,boxR,lenAll,↓reduceIte,Nat.reduceEqDiff,Nat.reduceAdd,Nat.reduceMul,Nat.reduceLT,Nat.reduceLeDiff,reduceCtorEq,Int.reduceLE,Int.reduceLT,ne_eq,Int.reduceEq,not_false_eq_true,decide_true,decide_false,Int.reduceToNat,tl3,Int.reduceBNe,Int.reduceBEq,rmK,rm1,not_true_eq_false]
     refine ⟨by omega,by omega,?_⟩
     refine C1.im e2 (by rfl) (by rfl) ?_
     simp only [tl,tl2,tl4,↓un_u,isCallR,entX,argFr,ret,retI,retB,intT,unT,endR,ressR,resR,tupT,bslR,boxR,lenAll,↓reduceIte,Nat.reduceEqDiff,Nat.reduceAdd,Nat.reduceMul,Nat.reduceLT,Nat.reduceLeDiff,reduceCtorEq,Int.reduceLE,Int.reduceLT,ne_eq,Int.reduceEq,not_false_eq_true,decide_true,decide_false,Int.reduceToNat,tl3,Int.reduceBNe,Int.reduceBEq,rmK,rm1,not_true_eq_false]
     refine C1.im e3 (by rfl) (by rfl) ?_
     simp only [tl,tl2,tl4,↓un_u,isCallR,entX,argFr,ret,retI,retB,intT,unT,endR,ressR,resR,tupT,bslR,boxR,lenAll,↓reduceIte,Nat.reduceEqDiff,Nat.reduceAdd,Nat.reduceMul,Nat.reduceLT,Nat.reduceLeDiff,reduceCtorEq,Int.reduceLE,Int.reduceLT,ne_eq,Int.reduceEq,not_false_eq_true,decide_true,decide_false,Int.reduceToNat,tl3,Int.reduceBNe,Int.reduceBEq,rmK,rm1,not_true_eq_false,bne_self_eq_false,beq_self_eq_true]
     refine ⟨k + 1,by omega,by omega,?_⟩
     rw [hwk]
     refine .of [(4096,some 4096),(69660,some 69660),(73740,some 73740),(184364,some 184364)] [] rfl (by first | rfl | (rw [hst];rfl)) ?_ ?_
     all_goals (try exact clA)
    ·refine ⟨j + 1,by omega,by omega,?_⟩
     rw [hwj]
     refine .of [(4096,some 4096),(69660,some 69660),(73740,some 73740)] [] rfl (by first | rfl | (rw [hst];rfl)) ?_ ?_
     all_goals (try exact clA)
  ·refine C1.im c_law39_awake (by rfl) (by rfl) ?_
   simp only [tl,tl2,tl4,↓un_u,isCallR,entX,argFr,ret,retI,retB,intT,unT,endR,ressR,resR,tupT,bslR,boxR,lenAll,↓reduceIte,Nat.reduceEqDiff,Nat.reduceAdd,Nat.reduceMul,Nat.reduceLT,Nat.reduceLeDiff,reduceCtorEq,Int.reduceLE,Int.reduceLT,ne_eq,Int.reduceEq,not_false_eq_true,decide_true,decide_false,Int.reduceToNat,tl3,Int.reduceBNe,Int.reduceBEq,rmK,rm1,not_true_eq_false]
   refine .of [] [] rfl (by first | rfl | (rw [hst];rfl)) ?_ ?_
   all_goals (try exact clA)
end Go.Proofs
