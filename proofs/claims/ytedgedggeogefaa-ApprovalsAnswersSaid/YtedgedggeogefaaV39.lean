import Derived.Test.YtedgedggeogefaaU39
set_option linter.unusedSimpArgs false
set_option linter.unusedVariables false
namespace Go.Proofs
open Go Go.TL
open Go.TL.So
set_option maxHeartbeats 2000000
theorem bytes_ext {a b:ByteArray} (h:a.toList = b.toList):a = b:=by
 rw [ByteArray.toList_eq,ByteArray.toList_eq] at h
 obtain ⟨⟨a⟩⟩:=a
 obtain ⟨⟨b⟩⟩:=b
 exact congrArg (fun l=>ByteArray.mk ⟨l⟩) h
theorem lsT_tot (x y:ByteArray) (h1:lsT x y = false) (h2:lsT y x = false):x = y:=by
 by_cases e:x.toList = y.toList
 ·exact bytes_ext e
 ·have h3:lsT y x = true:=bl_tri h1 e
  rw [h2] at h3;cases h3
theorem lsT_trans (x y z:ByteArray) (h1:lsT x y = true) (h2:lsT y z = true):lsT x z = true:=bl_trans h1 h2
theorem eqS_iff (x y:ByteArray):eqS x y = true↔x = y:=by
 unfold eqS
 rw [beq_iff_eq]
 exact ⟨bytes_ext,fun h=>by rw [h]⟩
def goneB (l:List App) (u v:Int) (x:App):Bool:=!(l.any (atA x.proj v)) && decide (x.fr≤u) && decide (u < x.un)
def exF (l:List App) (u v:Int) (acc:List ByteArray) (x:App):List ByteArray:=if goneB l u v x = true then insB lsT acc x.proj else acc
def exA (l:List App) (u v:Int):List ByteArray×Int:=
 if chkA l≠0 then ([],chkA l) else if u < 0∨u≥v∨v > 1073741824 then ([],43) else (l.foldl (exF l u v) [],0)
abbrev exT (r:List ByteArray×Int):T:=.tup [.sl 1 (r.1.map vS),vI r.2]
theorem foldl_snoc {α β:Type} {f:β→α→β} {b:β} {l:List α} {i:Nat} (h:i < l.length):(l.take (i + 1)).foldl f b = f ((l.take i).foldl f b) l[i]:=by
 rw [take_snoc h,List.foldl_append];rfl
theorem exF_len (l:List App) (u v:Int) (k:List App):∀ acc,(k.foldl (exF l u v) acc).length≤acc.length + k.length:=by
 induction k with
 | nil=>intro acc;simp
 | cons x k ih=>
   intro acc
   have h1:=ih (exF l u v acc x)
   have h2:(exF l u v acc x).length≤acc.length + 1:=by
    unfold exF
    split
    ·unfold insB
     rw [List.length_append,List.length_cons,List.length_take,List.length_drop];omega
    ·omega
   rw [List.foldl_cons,List.length_cons];omega
theorem c_ref39_Expired (l:List App) (u v:Int) (hl:l.length < 1000000000):Spc Try.prog F_ref39_Expired [vAs l,vI u,vI v] [] (exT (exA l u v)) []:=by
 have hck:=c_ref39_Check l (by omega)
 refine spec_of_ir fn_ref39_Expired mixm (by simp) fun e _ hst=>W_start ?_
 unfold ir_ref39_Expired
 simp only [tl,tl2,tl4,↓un_u,isCallR,entX,argFr,ret,retI,retB,intT,unT,endR,ressR,resR,tupT,bslR,boxR,lenAll,↓reduceIte,Nat.reduceEqDiff,Nat.reduceAdd,Nat.reduceMul,Nat.reduceLT,Nat.reduceLeDiff,reduceCtorEq,Int.reduceLE,Int.reduceLT,ne_eq,Int.reduceEq,not_false_eq_true,decide_true,decide_false,Int.reduceToNat,tl3,Int.reduceBNe,Int.reduceBEq,rmK,rm1,not_true_eq_false]
 refine C1.im hck rfl (by rfl) ?_
 simp only [tl,tl2,tl4,↓un_u,isCallR,entX,argFr,ret,retI,retB,intT,unT,endR,ressR,resR,tupT,bslR,boxR,lenAll,↓reduceIte,Nat.reduceEqDiff,Nat.reduceAdd,Nat.reduceMul,Nat.reduceLT,Nat.reduceLeDiff,reduceCtorEq,Int.reduceLE,Int.reduceLT,ne_eq,Int.reduceEq,not_false_eq_true,decide_true,decide_false,Int.reduceToNat,tl3,Int.reduceBNe,Int.reduceBEq,rmK,rm1,not_true_eq_false,bne_iff_ne,bne_eq_false_iff_eq]
 refine ⟨fun h=>?_,fun h=>?_⟩
 ·rw [exA,if_pos h]
  refine .of [] [] rfl (by first | rfl | (rw [hst];rfl)) ?_ ?_
  all_goals (try exact clA)
 have hk0:=h
 rw [exA,if_neg (fun e=>e h)]
 simp only [tl,tl2,tl4,↓un_u,isCallR,entX,argFr,ret,retI,retB,intT,unT,endR,ressR,resR,tupT,bslR,boxR,lenAll,↓reduceIte,Nat.reduceEqDiff,Nat.reduceAdd,Nat.reduceMul,Nat.reduceLT,Nat.reduceLeDiff,reduceCtorEq,Int.reduceLE,Int.reduceLT,ne_eq,Int.reduceEq,not_false_eq_true,decide_true,decide_false,Int.reduceToNat,tl3,Int.reduceBNe,Int.reduceBEq,rmK,rm1,not_true_eq_false,decide_eq_true_eq,decide_eq_false_iff_not,Bool.or_eq_true,Bool.or_eq_false_iff,Bool.and_eq_true,Bool.and_eq_false_iff]
 refine ⟨fun h2=>?_,fun h2=>?_⟩
 ·rw [if_pos (by omega)]
  refine .of [] [] rfl (by first | rfl | (rw [hst];rfl)) ?_ ?_
  all_goals (try exact clA)
 rw [if_neg (by omega)]
 refine W_loopF mixm (α:=Nat) [9,33] (fun i=>i≤l.length) (fun i=>[(9,.sl 1 (((l.take i).foldl (exF l u v) []).map vS)),(33,vI i)]) (fun i=>[]) (fun i=>l.length - i) 0 (by omega) ?_ fun i hi=>?_
 ·simp only [List.take_zero,List.foldl_nil,List.length_nil,List.map_nil]
  refine .of [] [] rfl (by first | rfl | (rw [hst];rfl)) ?_ ?_
  all_goals (try exact clA)
 have hal:=exF_len l u v (l.take i) []
 rw [List.length_take,List.length_nil] at hal
 simp only [tl,tl2,tl4,↓un_u,isCallR,entX,argFr,ret,retI,retB,intT,unT,endR,ressR,resR,tupT,bslR,boxR,lenAll,↓reduceIte,Nat.reduceEqDiff,Nat.reduceAdd,Nat.reduceMul,Nat.reduceLT,Nat.reduceLeDiff,reduceCtorEq,Int.reduceLE,Int.reduceLT,ne_eq,Int.reduceEq,not_false_eq_true,decide_true,decide_false,Int.reduceToNat,tl3,Int.reduceBNe,Int.reduceBEq,rmK,rm1,not_true_eq_false,decide_eq_true_eq,decide_eq_false_iff_not]
 refine ⟨fun h=>?_,fun h=>?_⟩
 ·have hfs:=foldl_snoc (f:=exF l u v) (b:=[]) (show i < l.length by omega)
  generalize (l.take i).foldl (exF l u v) [] = acc at *
  have hi2:i < l.length:=by omega
  have hwi:=i64_succ (i:=i) (by omega)
  simp only [tl,tl2,tl4,↓un_u,isCallR,entX,argFr,ret,retI,retB,intT,unT,endR,ressR,resR,tupT,bslR,boxR,lenAll,↓reduceIte,Nat.reduceEqDiff,Nat.reduceAdd,Nat.reduceMul,Nat.reduceLT,Nat.reduceLeDiff,reduceCtorEq,Int.reduceLE,Int.reduceLT,ne_eq,Int.reduceEq,not_false_eq_true,decide_true,decide_false,Int.reduceToNat,tl3,Int.reduceBNe,Int.reduceBEq,rmK,rm1,not_true_eq_false,Int.toNat_natCast,getD_mapT hi2,hwi]
  have hac:=c_ref39_Active l l[i].proj v (by omega)
  rw [actA,if_pos hk0] at hac
  refine ⟨by omega,C1.im hac rfl (by rfl) ?_⟩
  have hsome:(l.find? (atA l[i].proj v)).isSome = l.any (atA l[i].proj v):=by
   rw [Bool.eq_iff_iff,List.find?_isSome,List.any_eq_true]
  simp only [tl,tl2,tl4,↓un_u,isCallR,entX,argFr,ret,retI,retB,intT,unT,endR,ressR,resR,tupT,bslR,boxR,lenAll,↓reduceIte,Nat.reduceEqDiff,Nat.reduceAdd,Nat.reduceMul,Nat.reduceLT,Nat.reduceLeDiff,reduceCtorEq,Int.reduceLE,Int.reduceLT,ne_eq,Int.reduceEq,not_false_eq_true,decide_true,decide_false,Int.reduceToNat,tl3,Int.reduceBNe,Int.reduceBEq,rmK,rm1,not_true_eq_false,hsome,decide_eq_true_eq,decide_eq_false_iff_not,Bool.or_eq_true,Bool.or_eq_false_iff,Bool.and_eq_true,Bool.and_eq_false_iff]
  refine ⟨fun h3=>?_,fun h3=>?_⟩
  ·have hg:¬ goneB l u v l[i] = true:=by
    unfold goneB
    simp only [Bool.and_eq_true,Bool.not_eq_true',decide_eq_true_eq]
    intro e
    rcases h3 with (h3 | h3) | h3
    ·rw [h3] at e;exact absurd e.1.1 (by simp)
    ·omega
    ·omega
   rw [exF,if_neg hg] at hfs
   refine ⟨i + 1,by omega,by omega,?_⟩
   rw [hfs]
   refine .of [] [] rfl (by first | rfl | (rw [hst];rfl)) ?_ ?_
   all_goals (try exact clA)
  ·have hg:goneB l u v l[i] = true:=by
    unfold goneB
    simp only [Bool.and_eq_true,Bool.not_eq_true',decide_eq_true_eq]
    exact ⟨⟨h3.1.1,by omega⟩,by omega⟩
   rw [exF,if_pos hg,insB] at hfs
   have hend:∀ j:Nat,j≤acc.length→(acc.take j).any (fun y=>!lsT y l[i].proj) = false→(∀ h:j < acc.length,lsT acc[j] l[i].proj = false)→(acc.findIdx fun y=>!lsT y l[i].proj) = j:=by
    intro j h1 h2 h3
    by_cases hil:j < acc.length
    ·exact findIdx_at hil h2 (by rw [h3 hil];rfl)
    ·have:j = acc.length:=by omega
     subst this
     rw [List.take_length] at h2
     rw [List.findIdx_eq_length]
     intro y hy
     have:=List.any_eq_false.1 h2 y hy
     simpa using this
   refine W_loopF mixm (α:=Nat) [14] (fun j=>j≤acc.length∧((acc.take j).any (fun y=>!lsT y l[i].proj) = false)) (fun j=>[(14,vI j)]) (fun j=>[(40968,.arr 4 [appT l[i]] false)]) (fun j=>acc.length - j) 0 ⟨by omega,?_⟩ ?_ fun j hj=>?_
   ·rfl
   ·refine .of [(40968,some 40968)] [] rfl (by first | rfl | (rw [hst];rfl)) ?_ ?_
    all_goals (try exact clA)
   obtain ⟨hj1,hj3⟩:=hj
   have hfin:∀ j:Nat,(acc.findIdx fun y=>!lsT y l[i].proj) = j→((acc.take j).map vS ++ [vS l[i].proj] ++ (acc.drop j).map vS) = (acc.take (acc.findIdx fun y=>!lsT y l[i].proj) ++ l[i].proj :: acc.drop (acc.findIdx fun y=>!lsT y l[i].proj)).map vS:=by
    intro j h;rw [h];simp
   by_cases hjl:j < acc.length
   ·have hg:decide ((j:Int) < (acc.length:Int)) = true:=by simp;omega
    have hwj:=i64_succ (i:=j) (by omega)
    simp only [tl,tl2,tl4,↓un_u,isCallR,entX,argFr,ret,retI,retB,intT,unT,endR,ressR,resR,tupT,bslR,boxR,lenAll,↓reduceIte,Nat.reduceEqDiff,Nat.reduceAdd,Nat.reduceMul,Nat.reduceLT,Nat.reduceLeDiff,reduceCtorEq,Int.reduceLE,Int.reduceLT,ne_eq,Int.reduceEq,not_false_eq_true,decide_true,decide_false,Int.reduceToNat,tl3,Int.reduceBNe,Int.reduceBEq,rmK,rm1,not_true_eq_false,hg,Int.toNat_natCast,getD_mapT hjl,hwj]
    refine ⟨by omega,by kernel_rfl,fun h6=>?_,fun h6=>?_⟩
    ·refine ⟨j + 1,⟨by omega,any_snoc hjl hj3 ?_⟩,by omega,?_⟩
     ·have h6:lsT acc[j] l[i].proj = true:=h6
      rw [h6];rfl
     ·refine .of [(40968,some 40968)] [] rfl (by first | rfl | (rw [hst];rfl)) ?_ ?_
      all_goals (try exact clA)
    ·have hpe:=hend j hj1 hj3 fun _=>h6
     have hf:=hfin j hpe
     simp only [cut_map,cut_to,cut_from]
     have h1:(List.map vS (List.take j acc)).length = j:=by rw [List.length_map,List.length_take];omega
     have h2:(List.map vS (List.drop j acc)).length = acc.length - j:=by rw [List.length_map,List.length_drop]
     simp only [h1,h2,hf]
     refine ⟨by omega,by omega,by omega,by omega,by omega,by kernel_rfl,i + 1,by omega,by omega,?_⟩
     have h7:(acc.take (acc.findIdx fun y=>!lsT y l[i].proj) ++ l[i].proj :: acc.drop (acc.findIdx fun y=>!lsT y l[i].proj)).length = j + 1 + (acc.length - j):=by
      rw [hpe,List.length_append,List.length_cons,List.length_take,List.length_drop];omega
     rw [hfs,← h7]
     generalize (acc.take (acc.findIdx fun y=>!lsT y l[i].proj) ++ l[i].proj :: acc.drop (acc.findIdx fun y=>!lsT y l[i].proj)) = acc2 at *
     refine .of [] [65536] rfl (by first | rfl | (rw [hst];rfl)) ?_ ?_
     all_goals (try exact clA)
   ·have hg:decide ((j:Int) < (acc.length:Int)) = false:=by simp;omega
    have hpe:=hend j hj1 hj3 fun h=>absurd h hjl
    have hjn:(acc.map vS).getD j .junk = .junk:=by rw [List.getD_eq_getElem?_getD,List.getElem?_eq_none (by rw [List.length_map];omega)];rfl
    simp only [tl,tl2,tl4,↓un_u,isCallR,entX,argFr,ret,retI,retB,intT,unT,endR,ressR,resR,tupT,bslR,boxR,lenAll,↓reduceIte,Nat.reduceEqDiff,Nat.reduceAdd,Nat.reduceMul,Nat.reduceLT,Nat.reduceLeDiff,reduceCtorEq,Int.reduceLE,Int.reduceLT,ne_eq,Int.reduceEq,not_false_eq_true,decide_true,decide_false,Int.reduceToNat,tl3,Int.reduceBNe,Int.reduceBEq,rmK,rm1,not_true_eq_false,hg,Int.toNat_natCast,hjn,cut_map,cut_to,cut_from]
    have hf:=hfin j hpe
    have h1:(List.map vS (List.take j acc)).length = j:=by rw [List.length_map,List.length_take];omega
    have h2:(List.map vS (List.drop j acc)).length = acc.length - j:=by rw [List.length_map,List.length_drop]
    have h1':(List.take j acc).length = j:=by rw [List.length_take];omega
    have h2':(List.drop j acc).length = acc.length - j:=by rw [List.length_drop]
    have hwi:=i64_succ (i:=i) (by omega)
    simp only [h1,h2,h1',h2',hf,hwi]
    refine ⟨by kernel_rfl,by omega,by omega,by omega,by omega,by omega,by kernel_rfl,i + 1,by omega,by omega,?_⟩
    have h7:(acc.take (acc.findIdx fun y=>!lsT y l[i].proj) ++ l[i].proj :: acc.drop (acc.findIdx fun y=>!lsT y l[i].proj)).length = j + 1 + (acc.length - j):=by
     rw [hpe,List.length_append,List.length_cons,List.length_take,List.length_drop];omega
    rw [hfs,← h7]
    generalize (acc.take (acc.findIdx fun y=>!lsT y l[i].proj) ++ l[i].proj :: acc.drop (acc.findIdx fun y=>!lsT y l[i].proj)) = acc2 at *
    refine .of [] [65536] rfl (by first | rfl | (rw [hst];rfl)) ?_ ?_
    all_goals (try exact clA)
 ·have hil:i = l.length:=by omega
  subst hil
  rw [List.take_length]
  refine .of [] [] rfl (by first | rfl | (rw [hst];rfl)) ?_ ?_
  all_goals (try exact clA)
def nmE (l:List App) (u v:Int) (k:List App):List ByteArray:=(k.filter fun x=>l.any (atA x.proj u) && !(l.any (atA x.proj v))).map (·.proj)
theorem nmE_snoc {l:List App} {u v:Int} {i:Nat} (h:i < l.length):nmE l u v (l.take (i + 1)) = nmE l u v (l.take i) ++ (if (l.any (atA l[i].proj u) && !(l.any (atA l[i].proj v))) = true then [l[i].proj] else []):=by
 unfold nmE
 rw [take_snoc h,List.filter_append,List.map_append]
 congr 1
 cases e:(l.any (atA l[i].proj u) && !(l.any (atA l[i].proj v))) <;> simp [e]
theorem nmE_len (l:List App) (u v:Int) (k:List App):(nmE l u v k).length≤k.length:=by
 unfold nmE
 rw [List.length_map]
 exact List.length_filter_le _ _
theorem names_same {l:List App} (h:Ok l) {u v:Int} {ys:List ByteArray} (hp:ys.Perm (nmE l u v l)) (hs:Srt lsT ys 0 ys.length):cptN eqS ys ys.length = l.foldl (exF l u v) []:=by
 obtain ⟨h1,h2⟩:=cpt_spec lsT_tot eqS_iff hs
 have key:∀ i,i≤l.length→((l.take i).foldl (exF l u v) []).Pairwise (fun x y=>lsT x y = true)∧∀ q,q∈(l.take i).foldl (exF l u v) []↔∃ j,∃ hj:j < l.length,j < i∧goneB l u v l[j] = true∧l[j].proj = q:=by
  intro i
  induction i with
  | zero=>intro _;exact ⟨.nil,fun q=>⟨fun h=>(by cases h),fun ⟨_,_,h,_⟩=>by omega⟩⟩
  | succ i ih=>
    intro hi
    obtain ⟨k1,k2⟩:=ih (by omega)
    rw [foldl_snoc (by omega)]
    generalize (l.take i).foldl (exF l u v) [] = acc at *
    unfold exF
    by_cases c:goneB l u v (l[i]'(by omega)) = true
    ·rw [if_pos c]
     refine ⟨insB_srt lsT_ord lsT_tot lsT_trans k1 fun e=>?_,fun q=>?_⟩
     ·obtain ⟨j,hj,hji,c2,e2⟩:=(k2 _).1 e
      unfold goneB at c c2
      simp only [Bool.and_eq_true,decide_eq_true_eq] at c c2
      have h3:atA (l[i]'(by omega)).proj u l[j] = true:=atA_iff.2 ⟨by rw [e2],c2.1.2,c2.2⟩
      have h4:atA (l[i]'(by omega)).proj u (l[i]'(by omega)) = true:=atA_iff.2 ⟨rfl,c.1.2,c.2⟩
      have:=uniq h j i hj (by omega) h3 h4
      omega
     ·rw [insB_mem,k2]
      constructor
      ·rintro (e | ⟨j,hj,hji,c2,e⟩)
       ·exact ⟨i,by omega,by omega,c,e.symm⟩
       ·exact ⟨j,hj,by omega,c2,e⟩
      ·rintro ⟨j,hj,hji,c2,e⟩
       by_cases e3:j = i
       ·subst e3;exact .inl e.symm
       ·exact .inr ⟨j,hj,by omega,c2,e⟩
    ·rw [if_neg c]
     refine ⟨k1,fun q=>?_⟩
     rw [k2]
     constructor
     ·rintro ⟨j,hj,hji,c2,e⟩;exact ⟨j,hj,by omega,c2,e⟩
     ·rintro ⟨j,hj,hji,c2,e⟩
      by_cases e3:j = i
      ·subst e3;exact absurd c2 c
      ·exact ⟨j,hj,by omega,c2,e⟩
 obtain ⟨k1,k2⟩:=key l.length (Nat.le_refl _)
 rw [List.take_length] at k1 k2
 refine srt_uniq lsT_ord h1 k1 fun q=>?_
 rw [h2,hp.mem_iff,k2,nmE,List.mem_map]
 constructor
 ·rintro ⟨x,hx,rfl⟩
  obtain ⟨hx1,hx2⟩:=List.mem_filter.1 hx
  rw [Bool.and_eq_true,List.any_eq_true] at hx2
  obtain ⟨⟨y,hy,ha⟩,hn⟩:=hx2
  obtain ⟨j,hj,rfl⟩:=List.getElem_of_mem hy
  obtain ⟨a1,a2,a3⟩:=atA_iff.1 ha
  have e:=bytes_ext a1
  refine ⟨j,hj,hj,?_,e⟩
  unfold goneB
  rw [e,hn,decide_eq_true a2,decide_eq_true a3]
  rfl
 ·rintro ⟨j,hj,_,c,rfl⟩
  refine ⟨l[j],List.mem_filter.2 ⟨List.getElem_mem hj,?_⟩,rfl⟩
  unfold goneB at c
  simp only [Bool.and_eq_true,decide_eq_true_eq] at c
  rw [Bool.and_eq_true,List.any_eq_true]
  exact ⟨⟨l[j],List.getElem_mem hj,atA_iff.2 ⟨rfl,c.1.2,c.2⟩⟩,c.1.1⟩
end Go.Proofs
