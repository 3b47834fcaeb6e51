import Derived.Test.YtedgedggeogefaaK39
set_option linter.unusedSimpArgs false
set_option linter.unusedVariables false
namespace Go.Proofs
open Go Go.TL
theorem c_law39_awake:Spc Try.prog F_law39_awake [] [] (vB true) []:=by
 have h1:addA [] ⟨⟨#[112]⟩,⟨#[97,110,110]⟩,5,10⟩ = ([⟨⟨#[112]⟩,⟨#[97,110,110]⟩,5,10⟩],0):=by kernel_rfl
 have h2:actA [⟨⟨#[112]⟩,⟨#[97,110,110]⟩,5,10⟩] ⟨#[112]⟩ 9 = some ⟨⟨#[112]⟩,⟨#[97,110,110]⟩,5,10⟩:=by kernel_rfl
 have h3:actA [⟨⟨#[112]⟩,⟨#[97,110,110]⟩,5,10⟩] ⟨#[112]⟩ 10 = none:=by kernel_rfl
 have h4:endA [⟨⟨#[112]⟩,⟨#[97,110,110]⟩,5,10⟩] ⟨#[112]⟩ 7 = ([⟨⟨#[112]⟩,⟨#[97,110,110]⟩,5,7⟩],0):=by kernel_rfl
 have c1:=c_approvals_Add [] ⟨⟨#[112]⟩,⟨#[97,110,110]⟩,5,10⟩ (by simp)
 have c2:=c_approvals_Active [⟨⟨#[112]⟩,⟨#[97,110,110]⟩,5,10⟩] ⟨#[112]⟩ 9 (by simp)
 have c3:=c_approvals_Active [⟨⟨#[112]⟩,⟨#[97,110,110]⟩,5,10⟩] ⟨#[112]⟩ 10 (by simp)
 have c4:=c_approvals_End [⟨⟨#[112]⟩,⟨#[97,110,110]⟩,5,10⟩] ⟨#[112]⟩ 7 (by simp)
 rw [h1] at c1
 rw [h2] at c2
 rw [h3] at c3
 rw [h4] at c4
 refine spec_of_ir fn_law39_awake mixm (by simp) fun e _ hst=>W_start ?_
 unfold ir_law39_awake
 simp only [tl,tl2,tl4,↓un_u,isCallR,entX,argFr,ret,retI,retB,intT,unT,endR,ressR,resR,tupT,bslR,boxR,lenAll,↓reduceIte,Nat.reduceEqDiff,Nat.reduceAdd,Nat.reduceMul,Nat.reduceLT,Nat.reduceLeDiff,reduceCtorEq,Int.reduceLE,Int.reduceLT,ne_eq,Int.reduceEq,not_false_eq_true,decide_true,decide_false,Int.reduceToNat,tl3,Int.reduceBNe,Int.reduceBEq,rmK,rm1,not_true_eq_false]
 refine C1.freshB 8196 [] c1 ?_ (by rfl) (by rfl) (by apply imXs_map;intro _;exact ⟨rfl,rfl⟩) (by rfl) (by rfl) ?_
 ·all_goals (try exact clA)
 simp only [tl,tl2,tl4,↓un_u,isCallR,entX,argFr,ret,retI,retB,intT,unT,endR,ressR,resR,tupT,bslR,boxR,lenAll,↓reduceIte,Nat.reduceEqDiff,Nat.reduceAdd,Nat.reduceMul,Nat.reduceLT,Nat.reduceLeDiff,reduceCtorEq,Int.reduceLE,Int.reduceLT,ne_eq,Int.reduceEq,not_false_eq_true,decide_true,decide_false,Int.reduceToNat,tl3,Int.reduceBNe,Int.reduceBEq,rmK,rm1,not_true_eq_false]
 refine C1.lend [8196] c2 ?_ (by rfl) (by rfl) ?_
 ·all_goals (try exact clA)
 simp only [tl,tl2,tl4,↓un_u,isCallR,entX,argFr,ret,retI,retB,intT,unT,endR,ressR,resR,tupT,bslR,boxR,lenAll,↓reduceIte,Nat.reduceEqDiff,Nat.reduceAdd,Nat.reduceMul,Nat.reduceLT,Nat.reduceLeDiff,reduceCtorEq,Int.reduceLE,Int.reduceLT,ne_eq,Int.reduceEq,not_false_eq_true,decide_true,decide_false,Int.reduceToNat,tl3,Int.reduceBNe,Int.reduceBEq,rmK,rm1,not_true_eq_false]
 refine C1.lend [8196] c3 ?_ (by rfl) (by rfl) ?_
 ·all_goals (try exact clA)
 simp only [tl,tl2,tl4,↓un_u,isCallR,entX,argFr,ret,retI,retB,intT,unT,endR,ressR,resR,tupT,bslR,boxR,lenAll,↓reduceIte,Nat.reduceEqDiff,Nat.reduceAdd,Nat.reduceMul,Nat.reduceLT,Nat.reduceLeDiff,reduceCtorEq,Int.reduceLE,Int.reduceLT,ne_eq,Int.reduceEq,not_false_eq_true,decide_true,decide_false,Int.reduceToNat,tl3,Int.reduceBNe,Int.reduceBEq,rmK,rm1,not_true_eq_false]
 refine C1.freshB 20484 [8196] c4 ?_ (by rfl) (by rfl) (by apply imXs_map;intro _;exact ⟨rfl,rfl⟩) (by rfl) (by rfl) ?_
 ·all_goals (try exact clA)
 simp only [tl,tl2,tl4,↓un_u,isCallR,entX,argFr,ret,retI,retB,intT,unT,endR,ressR,resR,tupT,bslR,boxR,lenAll,↓reduceIte,Nat.reduceEqDiff,Nat.reduceAdd,Nat.reduceMul,Nat.reduceLT,Nat.reduceLeDiff,reduceCtorEq,Int.reduceLE,Int.reduceLT,ne_eq,Int.reduceEq,not_false_eq_true,decide_true,decide_false,Int.reduceToNat,tl3,Int.reduceBNe,Int.reduceBEq,rmK,rm1,not_true_eq_false]
 refine ⟨fun _=>by decide,fun _=>by decide,?_⟩
 show EndOk [] (vB true) _ (vB true) []
 refine .of [] [] rfl (by first | rfl | (rw [hst];rfl)) ?_ ?_
 all_goals (try exact clA)
theorem p3 {j:Nat} (h:j < 3):∃ p:ByteArray,(([T.v (Value.string ⟨#[112,48]⟩),T.v (Value.string ⟨#[112,49]⟩),T.v (Value.string ⟨#[112,50]⟩)]:List T).getD j .junk).cells.getD 0 .junk = vS p:=by
 have:j = 0∨j = 1∨j = 2:=by omega
 rcases this with h | h | h <;> subst h
 ·exact ⟨_,rfl⟩
 ·exact ⟨_,rfl⟩
 ·exact ⟨_,rfl⟩
theorem add_front {r:List App} (h:Ok r) {m:Nat} (hm:m < r.length):addA (r.drop (m + 1)) r[m] = (r.drop m,0):=by
 have hs:Ok (r.drop (m + 1)):=by
  have hsub:(r.drop (m + 1)).Sublist r:=List.drop_sublist _ _
  exact ⟨Nat.le_trans hsub.length_le h.len,fun x hx=>h.sing x (hsub.subset hx),h.srt.sublist hsub,h.dis.sublist hsub⟩
 have hc:=ok_iff.2 hs
 have hp:plA (r.drop (m + 1)) r[m] = 0:=by
  unfold plA
  cases hd:r.drop (m + 1) with
  | nil=>rfl
  | cons y q=>
    have hlt:m + 1 < r.length:=by
     have:=congrArg List.length hd
     rw [List.length_drop,List.length_cons] at this
     omega
    rw [List.drop_eq_getElem_cons hlt] at hd
    injection hd with hd _
    subst hd
    rw [List.findIdx_cons]
    have h1:=List.pairwise_iff_getElem.1 h.srt m (m + 1) hm hlt (by omega)
    have h2:befB r[m + 1] r[m] = false:=by
     cases hb:befB r[m + 1] r[m] with
     | false=>rfl
     | true=>
       have:=befB_trans h1 hb
       rw [befB_iff,bl_irrefl] at this
       simp at this
    rw [befB_cmp] at h2
    have h3:decide (cmpA r[m + 1] r[m]≥0) = true:=by simp at h2 ⊢;omega
    rw [h3];rfl
 have hlen:=h.len
 rw [addA,if_neg (by rw [hc];simp),if_neg (by rw [h.sing _ (List.getElem_mem hm)];simp),if_neg,if_neg (by rw [List.length_drop];omega),hp]
 ·simp
 ·rw [Bool.not_eq_true,List.any_eq_false]
  intro y hy
  obtain ⟨j,hj,rfl⟩:=List.getElem_of_mem hy
  rw [List.getElem_drop]
  rw [List.length_drop] at hj
  have:=List.pairwise_iff_getElem.1 h.dis m (m + 1 + j) hm (by omega) (by omega)
  rw [ovA_comm,this];simp
theorem act_any {r:List App} (h:Ok r) (p:ByteArray) (t:Int):(actA r p t).isSome = r.any (atA p t):=by
 rw [actA,if_pos (ok_iff.2 h)]
 rw [Bool.eq_iff_iff,List.find?_isSome,List.any_eq_true]
theorem eqA_refl (x:App):eqA x x = true:=by simp [eqA]
theorem c_ApprovalsOrder (l:List UInt8):Spc Try.prog F_law39_ApprovalsOrder [vL l] [] (vB true) []:=by
 have hl:(l.take 400).length≤400:=by rw [List.length_take];omega
 have hok:=ok_apA (l.take 400) 0
 have hap:=c_made_Approvals (l.take 400) 0 hl (Nat.zero_le _)
 generalize (apA (l.take 400) 0).2 = a at *
 generalize (apA (l.take 400) 0).1 = r at *
 have hrl:=hok.len
 refine spec_of_ir fn_law39_ApprovalsOrder mixm (by simp) fun e _ hst=>W_start ?_
 unfold ir_law39_ApprovalsOrder
 simp only [tl,tl2,tl4,↓un_u,isCallR,entX,argFr,ret,retI,retB,intT,unT,endR,ressR,resR,tupT,bslR,boxR,lenAll,↓reduceIte,Nat.reduceEqDiff,Nat.reduceAdd,Nat.reduceMul,Nat.reduceLT,Nat.reduceLeDiff,reduceCtorEq,Int.reduceLE,Int.reduceLT,ne_eq,Int.reduceEq,not_false_eq_true,decide_true,decide_false,Int.reduceToNat,tl3,Int.reduceBNe,Int.reduceBEq,rmK,rm1,not_true_eq_false]
 refine C1.newdraw 8196 (c_draw_New l) rfl rfl ?_
 simp only [tl,tl2,tl4,↓un_u,isCallR,entX,argFr,ret,retI,retB,intT,unT,endR,ressR,resR,tupT,bslR,boxR,lenAll,↓reduceIte,Nat.reduceEqDiff,Nat.reduceAdd,Nat.reduceMul,Nat.reduceLT,Nat.reduceLeDiff,reduceCtorEq,Int.reduceLE,Int.reduceLT,ne_eq,Int.reduceEq,not_false_eq_true,decide_true,decide_false,Int.reduceToNat,tl3,Int.reduceBNe,Int.reduceBEq,rmK,rm1,not_true_eq_false]
 refine C1.draw 8196 (l.take 400) 0 a hap rfl rfl rfl ?_
 have hw0:IntKind.i64.wrap ((r.length:Int) - 1) = (r.length:Int) - 1:=IntWalk.i64_in _ (by omega)
 simp only [tl,tl2,tl4,↓un_u,isCallR,entX,argFr,ret,retI,retB,intT,unT,endR,ressR,resR,tupT,bslR,boxR,lenAll,↓reduceIte,Nat.reduceEqDiff,Nat.reduceAdd,Nat.reduceMul,Nat.reduceLT,Nat.reduceLeDiff,reduceCtorEq,Int.reduceLE,Int.reduceLT,ne_eq,Int.reduceEq,not_false_eq_true,decide_true,decide_false,Int.reduceToNat,tl3,Int.reduceBNe,Int.reduceBEq,rmK,rm1,not_true_eq_false,hw0]
 refine W_loopF mixm (α:=Nat) [4,5] (fun m=>m≤r.length) (fun m=>[(4,vAs (r.drop m)),(5,vI ((m:Int) - 1))]) (fun m=>[]) (fun m=>m) r.length (Nat.le_refl _) ?_ fun m hm=>?_
 ·rw [List.drop_length]
  refine .of [] [] rfl (by first | rfl | (rw [hst];rfl)) ?_ ?_
  all_goals (try exact clA)
 simp only [tl,tl2,tl4,↓un_u,isCallR,entX,argFr,ret,retI,retB,intT,unT,endR,ressR,resR,tupT,bslR,boxR,lenAll,↓reduceIte,Nat.reduceEqDiff,Nat.reduceAdd,Nat.reduceMul,Nat.reduceLT,Nat.reduceLeDiff,reduceCtorEq,Int.reduceLE,Int.reduceLT,ne_eq,Int.reduceEq,not_false_eq_true,decide_true,decide_false,Int.reduceToNat,tl3,Int.reduceBNe,Int.reduceBEq,rmK,rm1,not_true_eq_false,decide_eq_true_eq,decide_eq_false_iff_not]
 refine ⟨fun h=>?_,fun h=>?_⟩
 ·obtain ⟨m,rfl⟩:∃ k,m = k + 1:=⟨m - 1,by omega⟩
  have hm2:m < r.length:=by omega
  have e1:((m + 1:Nat):Int) - 1 = (m:Int):=by omega
  have hw1:IntKind.i64.wrap ((m:Int) - 1) = (m:Int) - 1:=IntWalk.i64_in _ (by omega)
  have hadd:=c_approvals_Add (r.drop (m + 1)) r[m] (by rw [List.length_drop];omega)
  rw [add_front hok hm2] at hadd
  simp only [e1]
  simp only [tl,tl2,tl4,↓un_u,isCallR,entX,argFr,ret,retI,retB,intT,unT,endR,ressR,resR,tupT,bslR,boxR,lenAll,↓reduceIte,Nat.reduceEqDiff,Nat.reduceAdd,Nat.reduceMul,Nat.reduceLT,Nat.reduceLeDiff,reduceCtorEq,Int.reduceLE,Int.reduceLT,ne_eq,Int.reduceEq,not_false_eq_true,decide_true,decide_false,Int.reduceToNat,tl3,Int.reduceBNe,Int.reduceBEq,rmK,rm1,not_true_eq_false,Int.toNat_natCast,getD_mapT hm2]
  refine ⟨by omega,?_⟩
  refine C1.freshT 32788 hadd (by rfl) (by rfl) (by apply imXs_map;intro _;exact ⟨rfl,rfl⟩) (by rfl) ?_
  simp only [tl,tl2,tl4,↓un_u,isCallR,entX,argFr,ret,retI,retB,intT,unT,endR,ressR,resR,tupT,bslR,boxR,lenAll,↓reduceIte,Nat.reduceEqDiff,Nat.reduceAdd,Nat.reduceMul,Nat.reduceLT,Nat.reduceLeDiff,reduceCtorEq,Int.reduceLE,Int.reduceLT,ne_eq,Int.reduceEq,not_false_eq_true,decide_true,decide_false,Int.reduceToNat,tl3,Int.reduceBNe,Int.reduceBEq,rmK,rm1,not_true_eq_false,hw1]
  refine ⟨m,by omega,by omega,?_⟩
  refine .of [] [32788] rfl (by first | rfl | (rw [hst];rfl)) ?_ ?_
  all_goals (try exact clA)
 ·have hm0:m = 0:=by omega
  subst hm0
  simp only [List.drop_zero]
  have hsame:sameL eqA r r = true:=sameL_refl eqA_refl r
  refine W_loopF mixm (α:=Nat) [7] (fun t=>t≤55) (fun t=>[(7,vI t)]) (fun t=>[]) (fun t=>55 - t) 0 (by omega) ?_ fun t ht=>?_
  ·refine .of [] [] rfl (by first | rfl | (rw [hst];rfl)) ?_ ?_
   all_goals (try exact clA)
  simp only [tl,tl2,tl4,↓un_u,isCallR,entX,argFr,ret,retI,retB,intT,unT,endR,ressR,resR,tupT,bslR,boxR,lenAll,↓reduceIte,Nat.reduceEqDiff,Nat.reduceAdd,Nat.reduceMul,Nat.reduceLT,Nat.reduceLeDiff,reduceCtorEq,Int.reduceLE,Int.reduceLT,ne_eq,Int.reduceEq,not_false_eq_true,decide_true,decide_false,Int.reduceToNat,tl3,Int.reduceBNe,Int.reduceBEq,rmK,rm1,not_true_eq_false,decide_eq_true_eq,decide_eq_false_iff_not]
  refine ⟨fun h2=>?_,fun h2=>?_⟩
  ·have ht2:t < 55:=by omega
   have hwt:=i64_succ (i:=t) (by omega)
   refine W_loopF mixm (α:=Nat) [42] (fun j=>j≤3) (fun j=>[(42,vI j)]) (fun j=>[(57344,.arr 1 [vS ⟨#[112,48]⟩,vS ⟨#[112,49]⟩,vS ⟨#[112,50]⟩] false)]) (fun j=>3 - j) 0 (by omega) ?_ fun j hj=>?_
   ·refine .of [(57344,some 57344)] [] rfl (by first | rfl | (rw [hst];rfl)) ?_ ?_
    all_goals (try exact clA)
   simp only [tl,tl2,tl4,↓un_u,isCallR,entX,argFr,ret,retI,retB,intT,unT,endR,ressR,resR,tupT,bslR,boxR,lenAll,↓reduceIte,Nat.reduceEqDiff,Nat.reduceAdd,Nat.reduceMul,Nat.reduceLT,Nat.reduceLeDiff,reduceCtorEq,Int.reduceLE,Int.reduceLT,ne_eq,Int.reduceEq,not_false_eq_true,decide_true,decide_false,Int.reduceToNat,tl3,Int.reduceBNe,Int.reduceBEq,rmK,rm1,not_true_eq_false,decide_eq_true_eq,decide_eq_false_iff_not]
   refine ⟨fun h3=>?_,fun h3=>?_⟩
   ·have hj3:j < 3:=by omega
    have hwj:=i64_succ (i:=j) (by omega)
    obtain ⟨p,hp⟩:=p3 hj3
    simp only [tl,tl2,tl4,↓un_u,isCallR,entX,argFr,ret,retI,retB,intT,unT,endR,ressR,resR,tupT,bslR,boxR,lenAll,↓reduceIte,Nat.reduceEqDiff,Nat.reduceAdd,Nat.reduceMul,Nat.reduceLT,Nat.reduceLeDiff,reduceCtorEq,Int.reduceLE,Int.reduceLT,ne_eq,Int.reduceEq,not_false_eq_true,decide_true,decide_false,Int.reduceToNat,tl3,Int.reduceBNe,Int.reduceBEq,rmK,rm1,not_true_eq_false,Int.toNat_natCast,hp]
    refine ⟨by omega,hj3,?_⟩
    refine W_loopF mixm (α:=Nat) [10,48] (fun i=>i≤r.length) (fun i=>[(10,vB ((r.take i).any (atA p t))),(48,vI i)]) (fun i=>[(57344,.arr 1 [vS ⟨#[112,48]⟩,vS ⟨#[112,49]⟩,vS ⟨#[112,50]⟩] false)]) (fun i=>r.length - i) 0 (by omega) ?_ fun i hi=>?_
    ·refine .of [(57344,some 57344)] [] rfl (by first | rfl | (rw [hst];rfl)) ?_ ?_
     all_goals (try exact clA)
    simp only [tl,tl2,tl4,↓un_u,isCallR,entX,argFr,ret,retI,retB,intT,unT,endR,ressR,resR,tupT,bslR,boxR,lenAll,↓reduceIte,Nat.reduceEqDiff,Nat.reduceAdd,Nat.reduceMul,Nat.reduceLT,Nat.reduceLeDiff,reduceCtorEq,Int.reduceLE,Int.reduceLT,ne_eq,Int.reduceEq,not_false_eq_true,decide_true,decide_false,Int.reduceToNat,tl3,Int.reduceBNe,Int.reduceBEq,rmK,rm1,not_true_eq_false,decide_eq_true_eq,decide_eq_false_iff_not]
    refine ⟨fun h4=>?_,fun h4=>?_⟩
    ·have hi2:i < r.length:=by omega
     have hwi:=i64_succ (i:=i) (by omega)
     simp only [tl,tl2,tl4,↓un_u,isCallR,entX,argFr,ret,retI,retB,intT,unT,endR,ressR,resR,tupT,bslR,boxR,lenAll,↓reduceIte,Nat.reduceEqDiff,Nat.reduceAdd,Nat.reduceMul,Nat.reduceLT,Nat.reduceLeDiff,reduceCtorEq,Int.reduceLE,Int.reduceLT,ne_eq,Int.reduceEq,not_false_eq_true,decide_true,decide_false,Int.reduceToNat,tl3,Int.reduceBNe,Int.reduceBEq,rmK,rm1,not_true_eq_false,Int.toNat_natCast,getD_mapT hi2,hwi]
     have hsn:(List.any (List.take i r) (atA p t) || (r[i].proj.toList == p.toList && decide (r[i].fr≤(t:Int)) && decide ((t:Int) < r[i].un))) = (r.take (i + 1)).any (atA p t):=by
      rw [take_snoc hi2,List.any_append]
      simp [atA]
     rw [hsn]
     refine ⟨by omega,i + 1,by omega,by omega,?_⟩
     refine .of [(57344,some 57344)] [] rfl (by first | rfl | (rw [hst];rfl)) ?_ ?_
     all_goals (try exact clA)
    ·have hi2:i = r.length:=by omega
     subst hi2
     have hact:=c_approvals_Active r p t (by omega)
     refine C1.im hact (by rfl) (by rfl) ?_
     simp only [tl,tl2,tl4,↓un_u,isCallR,entX,argFr,ret,retI,retB,intT,unT,endR,ressR,resR,tupT,bslR,boxR,lenAll,↓reduceIte,Nat.reduceEqDiff,Nat.reduceAdd,Nat.reduceMul,Nat.reduceLT,Nat.reduceLeDiff,reduceCtorEq,Int.reduceLE,Int.reduceLT,ne_eq,Int.reduceEq,not_false_eq_true,decide_true,decide_false,Int.reduceToNat,tl3,Int.reduceBNe,Int.reduceBEq,rmK,rm1,not_true_eq_false,act_any hok,List.take_length]
     refine ⟨fun h5=>?_,fun h5=>?_⟩
     ·simp at h5
     ·refine ⟨j + 1,by omega,by omega,?_⟩
      rw [hwj]
      refine .of [(57344,some 57344)] [] rfl (by first | rfl | (rw [hst];rfl)) ?_ ?_
      all_goals (try exact clA)
   ·refine ⟨t + 1,by omega,by omega,?_⟩
    rw [hwt]
    refine .of [] [] rfl (by first | rfl | (rw [hst];rfl)) ?_ ?_
    all_goals (try exact clA)
  ·refine C1.im (c_ref39_Same r r (by omega) (by omega)) (by rfl) (by rfl) ?_
   rw [hsame]
   simp only [tl,tl2,tl4,↓un_u,isCallR,entX,argFr,ret,retI,retB,intT,unT,endR,ressR,resR,tupT,bslR,boxR,lenAll,↓reduceIte,Nat.reduceEqDiff,Nat.reduceAdd,Nat.reduceMul,Nat.reduceLT,Nat.reduceLeDiff,reduceCtorEq,Int.reduceLE,Int.reduceLT,ne_eq,Int.reduceEq,not_false_eq_true,decide_true,decide_false,Int.reduceToNat,tl3,Int.reduceBNe,Int.reduceBEq,rmK,rm1,not_true_eq_false]
   refine C2.one (by trivial) (C1.im c_law39_awake (by rfl) (by rfl) ?_)
   simp only [tl,tl2,tl4,↓un_u,isCallR,entX,argFr,ret,retI,retB,intT,unT,endR,ressR,resR,tupT,bslR,boxR,lenAll,↓reduceIte,Nat.reduceEqDiff,Nat.reduceAdd,Nat.reduceMul,Nat.reduceLT,Nat.reduceLeDiff,reduceCtorEq,Int.reduceLE,Int.reduceLT,ne_eq,Int.reduceEq,not_false_eq_true,decide_true,decide_false,Int.reduceToNat,tl3,Int.reduceBNe,Int.reduceBEq,rmK,rm1,not_true_eq_false]
   refine .of [] [] rfl (by first | rfl | (rw [hst];rfl)) ?_ ?_
   all_goals (try exact clA)
abbrev gone (r:List App) (p:ByteArray) (t:Int) (q:ByteArray) (u:Int):Bool:=(actA r p t).isSome && (q.toList == p.toList) && decide (u≥t) && decide (u < ((actA r p t).getD zApp).un)
theorem act_find {r:List App} (h:Ok r) (p:ByteArray) (t:Int):actA r p t = r.find? (atA p t):=by rw [actA,if_pos (ok_iff.2 h)]
theorem find_iff {r:List App} (h:Ok r) {p:ByteArray} {t:Int} {y:App}:r.find? (atA p t) = some y↔∃ i,∃ hi:i < r.length,r[i] = y∧atA p t y = true:=by
 constructor
 ·intro hf
  have h1:=List.find?_some hf
  obtain ⟨i,hi,he⟩:=List.getElem_of_mem (List.mem_of_find?_eq_some hf)
  exact ⟨i,hi,he,h1⟩
 ·rintro ⟨i,hi,rfl,h1⟩
  exact find_u h hi h1
theorem none_iff {r:List App} {p:ByteArray} {t:Int}:r.find? (atA p t) = none↔∀ y∈r,atA p t y = false:=by
 rw [List.find?_eq_none]
 constructor
 ·intro h y hy;simpa using h y hy
 ·intro h y hy;simpa using h y hy
theorem end_law {r:List App} (h:Ok r) (p:ByteArray) (t:Int) (q:ByteArray) (u:Int) :
 (actA (endA r p t).1 q u).isSome = ((actA r q u).isSome && !gone r p t q u)∧
 ((actA (endA r p t).1 q u).isSome = true→((actA r q u).getD zApp).res = ((actA (endA r p t).1 q u).getD zApp).res):=by
 have ha:=ok_end (p:=p) (t:=t) h
 unfold gone
 rw [act_find h,act_find ha,act_find h]
 by_cases hf:r.any (atA p t) = true
 ·obtain ⟨hlt,hfi⟩:=find_idx hf
  have he:(endA r p t).1 = if (r[r.findIdx (atA p t)]).fr = t then r.eraseIdx (r.findIdx (atA p t)) else r.set (r.findIdx (atA p t)) (cutU r[r.findIdx (atA p t)] t):=by
   rw [endA,if_neg (by rw [ok_iff.2 h];simp),if_pos hf,getD_get hlt]
   split <;> rfl
  rw [he] at ha ⊢
  generalize hk:r.findIdx (atA p t) = k at *
  have hat:atA p t r[k] = true:=List.find?_some hfi
  obtain ⟨a1,a2,a3⟩:=atA_iff.1 hat
  rw [hfi]
  simp only [Option.isSome_some,Option.getD_some,Bool.true_and]
  have hoth:∀ i (hi:i < r.length),i≠k→∃ j,∃ hj:j < (if r[k].fr = t then r.eraseIdx k else r.set k (cutU r[k] t)).length,(if r[k].fr = t then r.eraseIdx k else r.set k (cutU r[k] t))[j] = r[i]:=by
   intro i hi hik
   have hm:r[i]∈(if r[k].fr = t then r.eraseIdx k else r.set k (cutU r[k] t)):=by
    split
    ·rw [List.mem_eraseIdx_iff_getElem]
     exact ⟨i,hi,hik,rfl⟩
    ·rw [List.mem_iff_getElem]
     exact ⟨i,by simpa using hi,by rw [List.getElem_set_ne (Ne.symm hik)]⟩
   obtain ⟨j,hj,e⟩:=List.getElem_of_mem hm
   exact ⟨j,hj,e⟩
  have hmem:∀ y∈(if r[k].fr = t then r.eraseIdx k else r.set k (cutU r[k] t)),(∃ i,∃ hi:i < r.length,i≠k∧r[i] = y)∨(r[k].fr≠t∧y = cutU r[k] t):=by
   intro y hy
   split at hy
   ·rw [List.mem_eraseIdx_iff_getElem] at hy
    obtain ⟨i,hi,h1,h2⟩:=hy
    exact .inl ⟨i,hi,h1,h2⟩
   ·rename_i hne
    obtain ⟨i,hi,e⟩:=List.getElem_of_mem hy
    rw [List.length_set] at hi
    rw [List.getElem_set] at e
    split at e
    ·exact .inr ⟨hne,e.symm⟩
    ·rename_i hik
     exact .inl ⟨i,hi,Ne.symm hik,e⟩
  have hcm:r[k].fr≠t→cutU r[k] t∈(if r[k].fr = t then r.eraseIdx k else r.set k (cutU r[k] t)):=fun hne=>by
   rw [if_neg hne]
   exact List.mem_set hlt _
  generalize hA:(if r[k].fr = t then r.eraseIdx k else r.set k (cutU r[k] t)) = A at *
  cases hq:r.find? (atA q u) with
  | none=>
    have h1:=none_iff.1 hq
    have h2:A.find? (atA q u) = none:=by
     rw [none_iff]
     intro y hy
     rcases hmem y hy with ⟨i,hi,_,rfl⟩ | ⟨hne,rfl⟩
     ·exact h1 _ (List.getElem_mem hi)
     ·have h3:=h1 _ (List.getElem_mem hlt)
      cases h4:atA q u (cutU r[k] t) with
      | false=>rfl
      | true=>
        rw [atA_iff] at h4
        have h5:atA q u r[k] = true:=atA_iff.2 ⟨h4.1,h4.2.1,by have:=h4.2.2;simp only at this;omega⟩
        rw [h5] at h3
        cases h3
    rw [h2]
    simp
  | some y=>
    obtain ⟨i,hi,rfl,h1⟩:=(find_iff h).1 hq
    by_cases hik:i = k
    ·subst hik
     obtain ⟨b1,b2,b3⟩:=atA_iff.1 h1
     have hqp:q.toList = p.toList:=b1.symm.trans a1
     by_cases hut:u < t
     ·
      have hne:r[i].fr≠t:=by omega
      obtain ⟨j,hj,e⟩:=List.getElem_of_mem (hcm hne)
      have h2:A.find? (atA q u) = some (cutU r[i] t):=(find_iff ha).2 ⟨j,hj,e,atA_iff.2 ⟨b1,b2,hut⟩⟩
      rw [h2]
      have:decide (u≥t) = false:=by simp;omega
      simp [this]
     ·have h2:A.find? (atA q u) = none:=by
          rw [none_iff]
          intro y hy
          rcases hmem y hy with ⟨j,hj,hjk,rfl⟩ | ⟨hne,rfl⟩
          ·cases h4:atA q u r[j] with
           | false=>rfl
           | true=>exact absurd (uniq h j i hj hi h4 h1) hjk
          ·cases h4:atA q u (cutU r[i] t) with
           | false=>rfl
           | true=>have:=(atA_iff.1 h4).2.2;simp only at this;omega
      rw [h2]
      have e1:decide (u≥t) = true:=by simp;omega
      have e2:decide (u < r[i].un) = true:=by simp;omega
      simp [e1,e2,hqp]
    ·obtain ⟨j,hj,e⟩:=hoth i hi hik
     have h2:A.find? (atA q u) = some r[i]:=(find_iff ha).2 ⟨j,hj,e,h1⟩
     rw [h2]
     have hg:((q.toList == p.toList) && decide (u≥t) && decide (u < r[k].un)) = false:=by
      cases hg:((q.toList == p.toList) && decide (u≥t) && decide (u < r[k].un)) with
      | false=>rfl
      | true=>
        simp at hg
        exact absurd (uniq h i k hi hlt h1 (atA_iff.2 ⟨by rw [a1,hg.1.1],by omega,hg.2⟩)) hik
     simp [hg]
 ·have he:(endA r p t).1 = r:=by rw [endA,if_neg (by rw [ok_iff.2 h];simp),if_neg hf]
  have hn:r.find? (atA p t) = none:=find_noneQ (by simpa using hf)
  rw [he,hn]
  simp
theorem end_err {r:List App} (h:Ok r) (p:ByteArray) (t:Int):(actA r p t).isSome = ((endA r p t).2 == 0):=by
 rw [act_any h,endA,if_neg (by rw [ok_iff.2 h];simp)]
 by_cases hf:r.any (atA p t) = true
 ·rw [if_pos hf,hf]
  split <;> rfl
 ·rw [if_neg hf,Bool.eq_false_iff.2 hf]
  rfl
end Go.Proofs
