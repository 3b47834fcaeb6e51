import Derived.Test.YtedgedggeogefaaI39
import Derived.Test.YtedgedggeogefaaRange
set_option linter.unusedSimpArgs false
set_option linter.unusedVariables false
namespace Go.Proofs
open Go Go.TL
theorem c_ref39_Add (l:List App) (x:App) (hl:l.length < 1000000000000):Spc Try.prog F_ref39_Add [vAs l,appT x] [] (pairT (addA l x)) (pairS (addA l x)):=by
 have hck:=c_ref39_Check l (by omega)
 have hov:=c_ref39_meets l x (by omega)
 refine spec_of_ir fn_ref39_Add mixm (by simp) fun e _ hst=>W_start ?_
 unfold ir_ref39_Add
 simp only [tl,tl2,tl4,↓un_u,isCallR,entX,argFr,ret,retI,retB,intT,unT,endR,ressR,resR,tupT,bslR,boxR,lenAll,↓reduceIte,Nat.reduceEqDiff,Nat.reduceAdd,Nat.reduceMul,Nat.reduceLT,Nat.reduceLeDiff,reduceCtorEq,Int.reduceLE,Int.reduceLT,ne_eq,Int.reduceEq,not_false_eq_true,decide_true,decide_false,Int.reduceToNat,tl3,Int.reduceBNe,Int.reduceBEq,rmK,rm1,not_true_eq_false]
 refine ⟨by omega,?_⟩
 refine C1.im hck rfl (by rfl) ?_
 simp only [tl,tl2,tl4,↓un_u,isCallR,entX,argFr,ret,retI,retB,intT,unT,endR,ressR,resR,tupT,bslR,boxR,lenAll,↓reduceIte,Nat.reduceEqDiff,Nat.reduceAdd,Nat.reduceMul,Nat.reduceLT,Nat.reduceLeDiff,reduceCtorEq,Int.reduceLE,Int.reduceLT,ne_eq,Int.reduceEq,not_false_eq_true,decide_true,decide_false,Int.reduceToNat,tl3,Int.reduceBNe,Int.reduceBEq,rmK,rm1,not_true_eq_false,bne_iff_ne,bne_eq_false_iff_eq]
 refine ⟨fun h=>?_,fun h=>?_⟩
 ·rw [addA,if_pos h]
  refine .of [(0,some 8192)] [] rfl (by first | rfl | (rw [hst];rfl)) ?_ ?_
  all_goals (try exact clA)
 refine C1.im (c_ref39_named x) rfl (by rfl) ?_
 simp only [tl,tl2,tl4,↓un_u,isCallR,entX,argFr,ret,retI,retB,intT,unT,endR,ressR,resR,tupT,bslR,boxR,lenAll,↓reduceIte,Nat.reduceEqDiff,Nat.reduceAdd,Nat.reduceMul,Nat.reduceLT,Nat.reduceLeDiff,reduceCtorEq,Int.reduceLE,Int.reduceLT,ne_eq,Int.reduceEq,not_false_eq_true,decide_true,decide_false,Int.reduceToNat,tl3,Int.reduceBNe,Int.reduceBEq,rmK,rm1,not_true_eq_false,Bool.not_eq_true',Bool.not_eq_false']
 refine ⟨fun h2=>?_,fun h2=>?_⟩
 ·rw [addA,if_neg (by rw [h];simp),if_pos (by rw [single_3 h2];decide),single_3 h2]
  refine .of [(0,some 8192)] [] rfl (by first | rfl | (rw [hst];rfl)) ?_ ?_
  all_goals (try exact clA)
 refine C1.im (c_ref39_proper x) rfl (by rfl) ?_
 simp only [tl,tl2,tl4,↓un_u,isCallR,entX,argFr,ret,retI,retB,intT,unT,endR,ressR,resR,tupT,bslR,boxR,lenAll,↓reduceIte,Nat.reduceEqDiff,Nat.reduceAdd,Nat.reduceMul,Nat.reduceLT,Nat.reduceLeDiff,reduceCtorEq,Int.reduceLE,Int.reduceLT,ne_eq,Int.reduceEq,not_false_eq_true,decide_true,decide_false,Int.reduceToNat,tl3,Int.reduceBNe,Int.reduceBEq,rmK,rm1,not_true_eq_false,Bool.not_eq_true',Bool.not_eq_false']
 refine ⟨fun h3=>?_,fun h3=>?_⟩
 ·rw [addA,if_neg (by rw [h];simp),if_pos (by rw [single_43 h2 h3];decide),single_43 h2 h3]
  refine .of [(0,some 8192)] [] rfl (by first | rfl | (rw [hst];rfl)) ?_ ?_
  all_goals (try exact clA)
 have hs0:=single_0 h2 h3
 refine C1.im hov rfl (by rfl) ?_
 simp only [tl,tl2,tl4,↓un_u,isCallR,entX,argFr,ret,retI,retB,intT,unT,endR,ressR,resR,tupT,bslR,boxR,lenAll,↓reduceIte,Nat.reduceEqDiff,Nat.reduceAdd,Nat.reduceMul,Nat.reduceLT,Nat.reduceLeDiff,reduceCtorEq,Int.reduceLE,Int.reduceLT,ne_eq,Int.reduceEq,not_false_eq_true,decide_true,decide_false,Int.reduceToNat,tl3,Int.reduceBNe,Int.reduceBEq,rmK,rm1,not_true_eq_false]
 refine ⟨fun h4=>?_,fun h4=>?_⟩
 ·rw [addA,if_neg (by rw [h];simp),if_neg (by rw [hs0];simp),if_pos h4]
  refine .of [(0,some 8192)] [] rfl (by first | rfl | (rw [hst];rfl)) ?_ ?_
  all_goals (try exact clA)
 have hn4:¬ l.any (ovA x) = true:=by rw [h4];simp
 simp only [tl,tl2,tl4,↓un_u,isCallR,entX,argFr,ret,retI,retB,intT,unT,endR,ressR,resR,tupT,bslR,boxR,lenAll,↓reduceIte,Nat.reduceEqDiff,Nat.reduceAdd,Nat.reduceMul,Nat.reduceLT,Nat.reduceLeDiff,reduceCtorEq,Int.reduceLE,Int.reduceLT,ne_eq,Int.reduceEq,not_false_eq_true,decide_true,decide_false,Int.reduceToNat,tl3,Int.reduceBNe,Int.reduceBEq,rmK,rm1,not_true_eq_false,beq_iff_eq,beq_eq_false_iff_ne]
 refine ⟨fun h5=>?_,fun h5=>?_⟩
 ·rw [addA,if_neg (by rw [h];simp),if_neg (by rw [hs0];simp),if_neg hn4,if_pos (by omega)]
  refine .of [(0,some 8192)] [] rfl (by first | rfl | (rw [hst];rfl)) ?_ ?_
  all_goals (try exact clA)
 have he:addA l x = (l.take (plA l x) ++ x :: l.drop (plA l x),0):=by rw [addA,if_neg (by rw [h];simp),if_neg (by rw [hs0];simp),if_neg hn4,if_neg (by omega)]
 rw [he]
 have hpl:plA l x≤l.length:=List.findIdx_le_length
 have hend:∀ i:Nat,i≤l.length→(l.take i).any (fun y=>decide (cmpA y x≥0)) = false→(∀ h:i < l.length,befB l[i] x = false)→plA l x = i:=by
  intro i h1 h2 h3
  by_cases hil:i < l.length
  ·exact findIdx_at hil h2 (by have:=h3 hil;rw [befB_cmp] at this;simpa using this)
  ·have:i = l.length:=by omega
   subst this
   rw [List.take_length] at h2
   rw [plA,List.findIdx_eq_length]
   intro y hy
   have:=List.any_eq_false.1 h2 y hy
   simpa using this
 have hfin:∀ i:Nat,plA l x = i→((l.take i).map appT ++ [appT x] ++ (l.drop i).map appT) = (l.take (plA l x) ++ x :: l.drop (plA l x)).map appT:=by
  intro i h;rw [h];simp
 refine W_loopF mixm (α:=Nat) [8] (fun i=>i≤l.length∧((l.take i).any (fun y=>decide (cmpA y x≥0)) = false)) (fun i=>[(8,vI i)]) (fun i=>[(4096,.arr 4 [appT x] false)]) (fun i=>l.length - i) 0 ⟨by omega,?_⟩ ?_ fun i hi=>?_
 ·rfl
 ·refine .of [(4096,some 4096)] [] rfl (by first | rfl | (rw [hst];rfl)) ?_ ?_
  all_goals (try exact clA)
 obtain ⟨hi1,hi3⟩:=hi
 by_cases hil:i < l.length
 ·have hg:decide ((i:Int) < (l.length:Int)) = true:=by simp;omega
  have hcall:=c_ref39_before l[i] x
  simp only [tl,tl2,tl4,↓un_u,isCallR,entX,argFr,ret,retI,retB,intT,unT,endR,ressR,resR,tupT,bslR,boxR,lenAll,↓reduceIte,Nat.reduceEqDiff,Nat.reduceAdd,Nat.reduceMul,Nat.reduceLT,Nat.reduceLeDiff,reduceCtorEq,Int.reduceLE,Int.reduceLT,ne_eq,Int.reduceEq,not_false_eq_true,decide_true,decide_false,Int.reduceToNat,tl3,Int.reduceBNe,Int.reduceBEq,rmK,rm1,not_true_eq_false,hg,Int.toNat_natCast,getD_mapT hil]
  refine ⟨by omega,C2.one (by first | trivial | omega) (C1.im hcall rfl (by rfl) ?_)⟩
  have hws:=i64_succ (i:=i) (by omega)
  simp only [tl,tl2,tl4,↓un_u,isCallR,entX,argFr,ret,retI,retB,intT,unT,endR,ressR,resR,tupT,bslR,boxR,lenAll,↓reduceIte,Nat.reduceEqDiff,Nat.reduceAdd,Nat.reduceMul,Nat.reduceLT,Nat.reduceLeDiff,reduceCtorEq,Int.reduceLE,Int.reduceLT,ne_eq,Int.reduceEq,not_false_eq_true,decide_true,decide_false,Int.reduceToNat,tl3,Int.reduceBNe,Int.reduceBEq,rmK,rm1,not_true_eq_false,hws]
  refine ⟨by kernel_rfl,fun h6=>?_,fun h6=>?_⟩
  ·refine ⟨i + 1,⟨by omega,any_snoc hil hi3 ?_⟩,by omega,?_⟩
   ·rw [befB_cmp] at h6;simpa using h6
   ·refine .of [(4096,some 4096)] [] rfl (by first | rfl | (rw [hst];rfl)) ?_ ?_
    all_goals (try exact clA)
  ·have hpe:=hend i hi1 hi3 fun _=>h6
   simp only [cut_map,cut_to,cut_from]
   have h1:(List.map appT (List.take i l)).length = i:=by rw [List.length_map,List.length_take];omega
   have h2:(List.map appT (List.drop i l)).length = l.length - i:=by rw [List.length_map,List.length_drop]
   simp only [h1,h2,hfin i hpe]
   refine ⟨by omega,by omega,by omega,by omega,by omega,by kernel_rfl,?_⟩
   have h7:(l.take (plA l x) ++ x :: l.drop (plA l x)).length = i + 1 + (l.length - i):=by
    rw [hpe,List.length_append,List.length_cons,List.length_take,List.length_drop];omega
   simp only [pairT,pairS,h7]
   refine .of [(0,some 69632)] [] rfl (by first | rfl | (rw [hst];rfl)) ?_ ?_
   all_goals (try exact clA)
 ·have hg:decide ((i:Int) < (l.length:Int)) = false:=by simp;omega
  have hpe:=hend i hi1 hi3 fun h=>absurd h hil
  simp only [tl,tl2,tl4,↓un_u,isCallR,entX,argFr,ret,retI,retB,intT,unT,endR,ressR,resR,tupT,bslR,boxR,lenAll,↓reduceIte,Nat.reduceEqDiff,Nat.reduceAdd,Nat.reduceMul,Nat.reduceLT,Nat.reduceLeDiff,reduceCtorEq,Int.reduceLE,Int.reduceLT,ne_eq,Int.reduceEq,not_false_eq_true,decide_true,decide_false,Int.reduceToNat,tl3,Int.reduceBNe,Int.reduceBEq,rmK,rm1,not_true_eq_false,hg]
  refine C2.no (fun h=>h) ?_
  simp only [tl,tl2,tl4,↓un_u,isCallR,entX,argFr,ret,retI,retB,intT,unT,endR,ressR,resR,tupT,bslR,boxR,lenAll,↓reduceIte,Nat.reduceEqDiff,Nat.reduceAdd,Nat.reduceMul,Nat.reduceLT,Nat.reduceLeDiff,reduceCtorEq,Int.reduceLE,Int.reduceLT,ne_eq,Int.reduceEq,not_false_eq_true,decide_true,decide_false,Int.reduceToNat,tl3,Int.reduceBNe,Int.reduceBEq,rmK,rm1,not_true_eq_false,hg,G2_none,cut_map,cut_to,cut_from]
  have h1:(List.take i l).length = i:=by rw [List.length_take];omega
  have h2:(List.drop i l).length = l.length - i:=by rw [List.length_drop]
  simp only [List.length_map,h1,h2,hfin i hpe]
  refine ⟨by kernel_rfl,by omega,by omega,by omega,by omega,by omega,by kernel_rfl,?_⟩
  have h7:(l.take (plA l x) ++ x :: l.drop (plA l x)).length = i + 1 + (l.length - i):=by
   rw [hpe,List.length_append,List.length_cons,List.length_take,List.length_drop];omega
  simp only [pairT,pairS,h7]
  refine .of [(0,some 69632)] [] rfl (by first | rfl | (rw [hst];rfl)) ?_ ?_
  all_goals (try exact clA)
def eqA (a b:App):Bool:=(a.proj.toList == b.proj.toList) && ((a.res.toList == b.res.toList) && ((a.fr == b.fr) && ((a.un == b.un) && true)))
theorem c_ref39_Same (a b:List App) (ha:a.length < 1000000000000) (hb:b.length < 1000000000000):Spc Try.prog F_ref39_Same [vAs a,vAs b] [] (vB (sameL eqA a b)) []:=by
 refine spec_of_ir fn_ref39_Same mixm (by simp) fun e _ hst=>W_start ?_
 unfold ir_ref39_Same
 simp only [tl,tl2,tl4,↓un_u,isCallR,entX,argFr,ret,retI,retB,intT,unT,endR,ressR,resR,tupT,bslR,boxR,lenAll,↓reduceIte,Nat.reduceEqDiff,Nat.reduceAdd,Nat.reduceMul,Nat.reduceLT,Nat.reduceLeDiff,reduceCtorEq,Int.reduceLE,Int.reduceLT,ne_eq,Int.reduceEq,not_false_eq_true,decide_true,decide_false,Int.reduceToNat,tl3,Int.reduceBNe,Int.reduceBEq,rmK,rm1,not_true_eq_false,bne_iff_ne,bne_eq_false_iff_eq]
 refine ⟨fun h=>?_,fun h=>?_⟩
 ·rw [sameL_ne (by omega)]
  refine .of [] [] rfl (by first | rfl | (rw [hst];rfl)) ?_ ?_
  all_goals (try exact clA)
 have hab:a.length = b.length:=by omega
 refine W_loopF mixm (α:=Nat) [13] (fun i=>i≤a.length∧(sameL eqA (a.take i) (b.take i) = true)) (fun i=>[(13,vI i)]) (fun i=>[]) (fun i=>a.length - i) 0 ⟨by omega,?_⟩ ?_ fun i hi=>?_
 ·rfl
 ·refine .of [] [] rfl (by first | rfl | (rw [hst];rfl)) ?_ ?_
  all_goals (try exact clA)
 simp only [tl,tl2,tl4,↓un_u,isCallR,entX,argFr,ret,retI,retB,intT,unT,endR,ressR,resR,tupT,bslR,boxR,lenAll,↓reduceIte,Nat.reduceEqDiff,Nat.reduceAdd,Nat.reduceMul,Nat.reduceLT,Nat.reduceLeDiff,reduceCtorEq,Int.reduceLE,Int.reduceLT,ne_eq,Int.reduceEq,not_false_eq_true,decide_true,decide_false,Int.reduceToNat,tl3,Int.reduceBNe,Int.reduceBEq,rmK,rm1,not_true_eq_false,decide_eq_true_eq,decide_eq_false_iff_not]
 refine ⟨fun h=>?_,fun h=>?_⟩
 ·have hib:i < b.length:=by omega
  have hi2:i < a.length:=by omega
  have hwi:=i64_succ (i:=i) (by omega)
  simp only [tl,tl2,tl4,↓un_u,isCallR,entX,argFr,ret,retI,retB,intT,unT,endR,ressR,resR,tupT,bslR,boxR,lenAll,↓reduceIte,Nat.reduceEqDiff,Nat.reduceAdd,Nat.reduceMul,Nat.reduceLT,Nat.reduceLeDiff,reduceCtorEq,Int.reduceLE,Int.reduceLT,ne_eq,Int.reduceEq,not_false_eq_true,decide_true,decide_false,Int.reduceToNat,tl3,Int.reduceBNe,Int.reduceBEq,rmK,rm1,not_true_eq_false,Int.toNat_natCast,getD_mapT hi2,hwi,getD_mapT hib]
  refine ⟨by omega,by omega,by kernel_rfl,fun h3=>?_,fun h3=>?_⟩
  ·have h3:eqA a[i] b[i] = false:=by simpa [eqA] using h3
   rw [sameL_false hab hi2 h3]
   refine .of [] [] rfl (by first | rfl | (rw [hst];rfl)) ?_ ?_
   all_goals (try exact clA)
  ·have h3:eqA a[i] b[i] = true:=by simpa [eqA] using h3
   refine ⟨i + 1,⟨by omega,?_⟩,by omega,?_⟩
   ·rw [sameL_snoc hi2 hib,hi.2,h3];rfl
   ·refine .of [] [] rfl (by first | rfl | (rw [hst];rfl)) ?_ ?_
    all_goals (try exact clA)
 ·have hi2:i = a.length:=by omega
  subst hi2
  have h3:=hi.2
  rw [List.take_length,hab,List.take_length] at h3
  rw [h3]
  refine .of [] [] rfl (by first | rfl | (rw [hst];rfl)) ?_ ?_
  all_goals (try exact clA)
def dig (n:Int):ByteArray:=⟨#[u8 (48 + n)]⟩
theorem c_ref24_Decimal1 (n:Int) (h:0≤n∧n < 10):Spc Try.prog F_ref24_Decimal [vI n] [] (vS (dig n)) []:=by
 have h1:decide (n < 0) = false:=by simp;omega
 have h2:decide (n < 10) = true:=by simp;omega
 have hw:IntKind.i64.wrap (48 + n) = 48 + n:=IntWalk.i64_in _ (by omega)
 refine spec_of_ir fn_ref24_Decimal mixm (by simp) fun e _ hst=>W_start ?_
 unfold ir_ref24_Decimal
 simp only [tl,tl2,tl4,↓un_u,isCallR,entX,argFr,ret,retI,retB,intT,unT,endR,ressR,resR,tupT,bslR,boxR,lenAll,↓reduceIte,Nat.reduceEqDiff,Nat.reduceAdd,Nat.reduceMul,Nat.reduceLT,Nat.reduceLeDiff,reduceCtorEq,Int.reduceLE,Int.reduceLT,ne_eq,Int.reduceEq,not_false_eq_true,decide_true,decide_false,Int.reduceToNat,tl3,Int.reduceBNe,Int.reduceBEq,rmK,rm1,not_true_eq_false,h1,h2,hw]
 simp only [byteT_u8]
 refine ⟨fun y hy=>by rw [List.mem_singleton.1 hy];rfl,?_⟩
 rw [unbyte_byteT]
 refine .of [] [] rfl (by first | rfl | (rw [hst];rfl)) ?_ ?_
 all_goals (try exact clA)
def nmL:List ByteArray:=[⟨#[97,110,110]⟩,⟨#[98,111,98]⟩,⟨#[99,121,100]⟩,⟨#[100,97,110]⟩,⟨#[101,118,101]⟩]
theorem c_made_Name (l:List UInt8) (a:Nat) (hl:l.length≤400) (ha:a≤l.length):Spc Try.prog F_made_Name [.ptr 0 1 0 0] [(0,oC l a)] (vS (nmL.getD (nx l a 5).1.toNat ⟨#[]⟩)) [(0,oC l (nx l a 5).2)]:=by
 have hr:=nx_range l a 5 (by omega)
 obtain ⟨m,hm⟩:=Int.eq_ofNat_of_zero_le hr.1
 refine spec_of_ir fn_made_Name mixm (by simp) fun e _ hst=>W_start ?_
 unfold ir_made_Name
 simp only [tl,tl2,tl4,↓un_u,isCallR,entX,argFr,ret,retI,retB,intT,unT,endR,ressR,resR,tupT,bslR,boxR,lenAll,↓reduceIte,Nat.reduceEqDiff,Nat.reduceAdd,Nat.reduceMul,Nat.reduceLT,Nat.reduceLeDiff,reduceCtorEq,Int.reduceLE,Int.reduceLT,ne_eq,Int.reduceEq,not_false_eq_true,decide_true,decide_false,Int.reduceToNat,tl3,Int.reduceBNe,Int.reduceBEq,rmK,rm1,not_true_eq_false]
 refine C1.draw 0 l a _ (c_draw_Codes_Next l a 5 hl ha (by omega)) rfl rfl rfl ?_
 rw [hm] at hr ⊢
 simp only [tl,tl2,tl4,↓un_u,isCallR,entX,argFr,ret,retI,retB,intT,unT,endR,ressR,resR,tupT,bslR,boxR,lenAll,↓reduceIte,Nat.reduceEqDiff,Nat.reduceAdd,Nat.reduceMul,Nat.reduceLT,Nat.reduceLeDiff,reduceCtorEq,Int.reduceLE,Int.reduceLT,ne_eq,Int.reduceEq,not_false_eq_true,decide_true,decide_false,Int.reduceToNat,tl3,Int.reduceBNe,Int.reduceBEq,rmK,rm1,not_true_eq_false]
 have h5:m < 5:=by omega
 refine ⟨by omega,by omega,?_⟩
 have hm5:m = 0∨m = 1∨m = 2∨m = 3∨m = 4:=by omega
 have hend:vS (nmL.getD ((m:Nat):Int).toNat ⟨#[]⟩) = ([vS ⟨#[97,110,110]⟩,vS ⟨#[98,111,98]⟩,vS ⟨#[99,121,100]⟩,vS ⟨#[100,97,110]⟩,vS ⟨#[101,118,101]⟩].getD ((m:Nat):Int).toNat T.junk).cells.getD 0 T.junk:=by
  rcases hm5 with h | h | h | h | h <;> subst h <;> rfl
 rw [← hend]
 refine .of [(0,some 0)] [] rfl (by first | rfl | (rw [hst];rfl)) ?_ ?_
 all_goals (try exact clA)
def apX (cs:List UInt8) (a:Nat):App×Nat:=
 let d1:=nx cs a 30
 let d2:=nx cs d1.2 3
 let d3:=nx cs d2.2 5
 let d4:=nx cs d3.2 20
 (⟨⟨#[112]⟩ ++ dig d2.1,nmL.getD d3.1.toNat ⟨#[]⟩,d1.1,d1.1 + (1 + d4.1)⟩,d4.2)
def apN (cs:List UInt8):Nat→Nat→List App→List App×Nat
 | 0,a,l=>(l,a)
 | n + 1,a,l=>apN cs n (apX cs a).2 (addA l (apX cs a).1).1
def apA (cs:List UInt8) (a:Nat):List App×Nat:=apN cs (nx cs a 7).1.toNat (nx cs a 7).2 []
theorem addA_len (l:List App) (x:App):(addA l x).1.length≤l.length + 1:=by
 unfold addA
 split
 ·simp
 ·split
  ·simp
  ·split
   ·simp
   ·split
    ·simp
    ·simp only [List.length_append,List.length_cons,List.length_take,List.length_drop];omega
theorem apX_le (cs:List UInt8) (a:Nat) (h:a≤cs.length):(apX cs a).2≤cs.length:=
 nx_le cs _ 20 (nx_le cs _ 5 (nx_le cs _ 3 (nx_le cs a 30 h)))
theorem c_made_Approvals (cs:List UInt8) (a:Nat) (hl:cs.length≤400) (ha:a≤cs.length):Spc Try.prog F_made_Approvals [.ptr 0 1 0 0] [(0,oC cs a)] (vAs (apA cs a).1) [(0,oC cs (apA cs a).2)]:=by
 have hr:=nx_range cs a 7 (by omega)
 have hle:=nx_le cs a 7 ha
 obtain ⟨n,hn⟩:=Int.eq_ofNat_of_zero_le hr.1
 rw [apA,hn]
 generalize hb:(nx cs a 7).2 = b at *
 refine spec_of_ir fn_made_Approvals mixm (by simp) fun e _ hst=>W_start ?_
 unfold ir_made_Approvals
 simp only [tl,tl2,tl4,↓un_u,isCallR,entX,argFr,ret,retI,retB,intT,unT,endR,ressR,resR,tupT,bslR,boxR,lenAll,↓reduceIte,Nat.reduceEqDiff,Nat.reduceAdd,Nat.reduceMul,Nat.reduceLT,Nat.reduceLeDiff,reduceCtorEq,Int.reduceLE,Int.reduceLT,ne_eq,Int.reduceEq,not_false_eq_true,decide_true,decide_false,Int.reduceToNat,tl3,Int.reduceBNe,Int.reduceBEq,rmK,rm1,not_true_eq_false]
 refine C1.draw 0 cs a _ (c_draw_Codes_Next cs a 7 hl ha (by omega)) rfl rfl rfl ?_
 simp only [tl,tl2,tl4,↓un_u,isCallR,entX,argFr,ret,retI,retB,intT,unT,endR,ressR,resR,tupT,bslR,boxR,lenAll,↓reduceIte,Nat.reduceEqDiff,Nat.reduceAdd,Nat.reduceMul,Nat.reduceLT,Nat.reduceLeDiff,reduceCtorEq,Int.reduceLE,Int.reduceLT,ne_eq,Int.reduceEq,not_false_eq_true,decide_true,decide_false,Int.reduceToNat,tl3,Int.reduceBNe,Int.reduceBEq,rmK,rm1,not_true_eq_false,hn,hb]
 refine W_loopF mixm (α:=Nat×Nat×List App) [3,4] (fun p=>p.1≤n∧p.2.1≤cs.length∧p.2.2.length≤n∧p.2.2.length + p.1≤n∧apN cs p.1 p.2.1 p.2.2 = apN cs n b []) (fun p=>[(3,vAs p.2.2),(4,vI p.1)]) (fun p=>[(0,oC cs p.2.1)]) (fun p=>p.1) (n,b,[]) ?_ ?_ fun p hp=>?_
 ·exact ⟨Nat.le_refl _,hle,by simp,by simp,rfl⟩
 ·refine .of [(0,some 0)] [] rfl (by first | rfl | (rw [hst];rfl)) ?_ ?_
  all_goals (try exact clA)
 obtain ⟨m,q,l⟩:=p
 obtain ⟨h1,h2,h3,h4,h5⟩:=hp
 dsimp only at h1 h2 h3 h4 h5
 simp only [tl,tl2,tl4,↓un_u,isCallR,entX,argFr,ret,retI,retB,intT,unT,endR,ressR,resR,tupT,bslR,boxR,lenAll,↓reduceIte,Nat.reduceEqDiff,Nat.reduceAdd,Nat.reduceMul,Nat.reduceLT,Nat.reduceLeDiff,reduceCtorEq,Int.reduceLE,Int.reduceLT,ne_eq,Int.reduceEq,not_false_eq_true,decide_true,decide_false,Int.reduceToNat,tl3,Int.reduceBNe,Int.reduceBEq,rmK,rm1,not_true_eq_false,decide_eq_true_eq,decide_eq_false_iff_not]
 refine ⟨fun h=>?_,fun h=>?_⟩
 ·obtain ⟨m,rfl⟩:∃ k,m = k + 1:=⟨m - 1,by omega⟩
  have g1:=nx_le cs q 30 h2
  have r1:=nx_range cs q 30 (by omega)
  refine C1.draw 0 cs q _ (c_draw_Codes_Next cs q 30 hl h2 (by omega)) rfl rfl rfl ?_
  simp only [tl,tl2,tl4,↓un_u,isCallR,entX,argFr,ret,retI,retB,intT,unT,endR,ressR,resR,tupT,bslR,boxR,lenAll,↓reduceIte,Nat.reduceEqDiff,Nat.reduceAdd,Nat.reduceMul,Nat.reduceLT,Nat.reduceLeDiff,reduceCtorEq,Int.reduceLE,Int.reduceLT,ne_eq,Int.reduceEq,not_false_eq_true,decide_true,decide_false,Int.reduceToNat,tl3,Int.reduceBNe,Int.reduceBEq,rmK,rm1,not_true_eq_false]
  have g2:=nx_le cs _ 3 g1
  have r2:=nx_range cs (nx cs q 30).2 3 (by omega)
  refine C1.draw 0 cs _ _ (c_draw_Codes_Next cs _ 3 hl g1 (by omega)) rfl rfl rfl ?_
  simp only [tl,tl2,tl4,↓un_u,isCallR,entX,argFr,ret,retI,retB,intT,unT,endR,ressR,resR,tupT,bslR,boxR,lenAll,↓reduceIte,Nat.reduceEqDiff,Nat.reduceAdd,Nat.reduceMul,Nat.reduceLT,Nat.reduceLeDiff,reduceCtorEq,Int.reduceLE,Int.reduceLT,ne_eq,Int.reduceEq,not_false_eq_true,decide_true,decide_false,Int.reduceToNat,tl3,Int.reduceBNe,Int.reduceBEq,rmK,rm1,not_true_eq_false]
  refine C1.im (c_ref24_Decimal1 _ ⟨r2.1,by omega⟩) rfl (by rfl) ?_
  simp only [tl,tl2,tl4,↓un_u,isCallR,entX,argFr,ret,retI,retB,intT,unT,endR,ressR,resR,tupT,bslR,boxR,lenAll,↓reduceIte,Nat.reduceEqDiff,Nat.reduceAdd,Nat.reduceMul,Nat.reduceLT,Nat.reduceLeDiff,reduceCtorEq,Int.reduceLE,Int.reduceLT,ne_eq,Int.reduceEq,not_false_eq_true,decide_true,decide_false,Int.reduceToNat,tl3,Int.reduceBNe,Int.reduceBEq,rmK,rm1,not_true_eq_false]
  have g3:=nx_le cs _ 5 g2
  refine ⟨by
   have:(dig (nx cs (nx cs q 30).snd 3).fst).size = 1:=rfl
   rw [this]
   decide,?_⟩
  refine C1.draw 0 cs _ _ (c_made_Name cs _ hl g2) rfl rfl rfl ?_
  simp only [tl,tl2,tl4,↓un_u,isCallR,entX,argFr,ret,retI,retB,intT,unT,endR,ressR,resR,tupT,bslR,boxR,lenAll,↓reduceIte,Nat.reduceEqDiff,Nat.reduceAdd,Nat.reduceMul,Nat.reduceLT,Nat.reduceLeDiff,reduceCtorEq,Int.reduceLE,Int.reduceLT,ne_eq,Int.reduceEq,not_false_eq_true,decide_true,decide_false,Int.reduceToNat,tl3,Int.reduceBNe,Int.reduceBEq,rmK,rm1,not_true_eq_false]
  have g4:=nx_le cs _ 20 g3
  have r4:=nx_range cs (nx cs (nx cs (nx cs q 30).2 3).2 5).2 20 (by omega)
  refine C1.draw 0 cs _ _ (c_draw_Codes_Range cs _ 1 20 hl g3 (by omega) (by omega)) (by rfl) rfl rfl ?_
  have e20:(20:Int) - 1 + 1 = 20:=by decide
  simp only [e20]
  have hw:IntKind.i64.wrap ((nx cs q 30).1 + (1 + (nx cs (nx cs (nx cs (nx cs q 30).2 3).2 5).2 20).1)) = (nx cs q 30).1 + (1 + (nx cs (nx cs (nx cs (nx cs q 30).2 3).2 5).2 20).1):=IntWalk.i64_in _ (by omega)
  simp only [tl,tl2,tl4,↓un_u,isCallR,entX,argFr,ret,retI,retB,intT,unT,endR,ressR,resR,tupT,bslR,boxR,lenAll,↓reduceIte,Nat.reduceEqDiff,Nat.reduceAdd,Nat.reduceMul,Nat.reduceLT,Nat.reduceLeDiff,reduceCtorEq,Int.reduceLE,Int.reduceLT,ne_eq,Int.reduceEq,not_false_eq_true,decide_true,decide_false,Int.reduceToNat,tl3,Int.reduceBNe,Int.reduceBEq,rmK,rm1,not_true_eq_false,hw]
  have hX:(⟨⟨#[112]⟩ ++ dig (nx cs (nx cs q 30).2 3).1,nmL.getD (nx cs (nx cs (nx cs q 30).2 3).2 5).1.toNat ⟨#[]⟩,(nx cs q 30).1,(nx cs q 30).1 + (1 + (nx cs (nx cs (nx cs (nx cs q 30).2 3).2 5).2 20).1)⟩:App) = (apX cs q).1:=rfl
  have hA:(nx cs (nx cs (nx cs (nx cs q 30).2 3).2 5).2 20).2 = (apX cs q).2:=rfl
  have hadd:=c_ref39_Add l (apX cs q).1 (by omega)
  rw [hA]
  refine C1.freshT 28724 hadd (by rfl) (by rfl) (by apply imXs_map;intro _;exact ⟨rfl,rfl⟩) (by rfl) ?_
  have hw2:IntKind.i64.wrap (((m + 1:Nat):Int) - 1) = (m:Int):=by rw [IntWalk.i64_in _ (by omega)];omega
  simp only [tl,tl2,tl4,↓un_u,isCallR,entX,argFr,ret,retI,retB,intT,unT,endR,ressR,resR,tupT,bslR,boxR,lenAll,↓reduceIte,Nat.reduceEqDiff,Nat.reduceAdd,Nat.reduceMul,Nat.reduceLT,Nat.reduceLeDiff,reduceCtorEq,Int.reduceLE,Int.reduceLT,ne_eq,Int.reduceEq,not_false_eq_true,decide_true,decide_false,Int.reduceToNat,tl3,Int.reduceBNe,Int.reduceBEq,rmK,rm1,not_true_eq_false,hw2]
  have hal:=addA_len l (apX cs q).1
  refine ⟨(m,(apX cs q).2,(addA l (apX cs q).1).1),⟨by simp only;omega,apX_le cs q h2,by simp only;omega,by simp only;omega,h5⟩,by simp only;omega,?_⟩
  refine .of [(0,some 0)] [28724] rfl (by first | rfl | (rw [hst];rfl)) ?_ ?_
  all_goals (try exact clA)
 ·have hm0:m = 0:=by omega
  subst hm0
  rw [Int.toNat_natCast,← h5]
  simp only [apN]
  refine .of [(0,some 0)] [] rfl (by first | rfl | (rw [hst];rfl)) ?_ ?_
  all_goals (try exact clA)
end Go.Proofs
