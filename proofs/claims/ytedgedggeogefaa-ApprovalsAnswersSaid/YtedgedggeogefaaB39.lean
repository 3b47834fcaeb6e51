import Derived.Test.YtedgedggeogefaaA39
set_option linter.unusedSimpArgs false
set_option linter.unusedVariables false
namespace Go.Proofs
open Go Go.TL
def chBad (c:UInt8):Bool:=(decide ((c.toNat:Int) < 97) || decide ((c.toNat:Int) > 122)) && (decide ((c.toNat:Int) < 48) || decide ((c.toNat:Int) > 57)) && !((c.toNat:Int) == 95)
def hdBad (s:ByteArray):Bool:=decide ((s.size:Int) < 1) || decide ((s.size:Int) > 16) || decide (((s.data.toList.getD 0 0).toNat:Int) < 97) || decide (((s.data.toList.getD 0 0).toNat:Int) > 122)
def resW:List (List UInt8):=[[97,108,108],[97,110,100],[101,118,101,110,116],[102,114,111,109],[109,105,115,115,105,110,103],[110,111,116],[111,110],[111,114],[116,111],[117,110,100,101,114],[119,104,101,114,101]]
def nameB (s:ByteArray):Bool:=!hdBad s && !(s.data.toList.any chBad) && !(resW.contains s.toList)
theorem c_codes_Name (s:ByteArray):Spc Try.prog F_codes_Name [vS s] [] (vB (nameB s)) []:=by
 refine spec_of_ir fn_codes_Name mixm (by simp) fun e _ hst=>W_start ?_
 unfold ir_codes_Name
 simp only [tl,tl2,tl4,↓un_u,isCallR,entX,argFr,ret,retI,retB,intT,unT,endR,ressR,resR,tupT,bslR,boxR,lenAll,↓reduceIte,Nat.reduceEqDiff,Nat.reduceAdd,Nat.reduceMul,Nat.reduceLT,Nat.reduceLeDiff,reduceCtorEq,Int.reduceLE,Int.reduceLT,ne_eq,Int.reduceEq,not_false_eq_true,decide_true,decide_false,Int.reduceToNat,tl3,Int.reduceBNe,Int.reduceBEq,rmK,rm1,not_true_eq_false]
 refine ⟨fun h=>?_,fun h=>?_,fun h=>?_,fun h=>?_⟩
 ·simp at h
  omega
 ·simp at h
  omega
 ·have:nameB s = false:=by unfold nameB hdBad;rw [h];rfl
  rw [this]
  refine .of [] [] rfl (by first | rfl | (rw [hst];rfl)) ?_ ?_
  all_goals (try exact clA)
 have hd:hdBad s = false:=h
 have hs16:s.data.toList.length≤16:=by
  unfold hdBad at hd
  simp only [Bool.or_eq_false_iff,decide_eq_false_iff_not] at hd
  have:s.size = s.data.toList.length:=by rw [Array.length_toList];rfl
  omega
 refine W_loopF mixm (α:=Nat) [26] (fun i=>i≤s.data.toList.length∧((s.data.toList.take i).any chBad = false)) (fun i=>[(26,vI i)]) (fun i=>[]) (fun i=>s.data.toList.length - i) 0 ⟨by omega,?_⟩ ?_ fun i hi=>?_
 ·rfl
 ·refine .of [] [] rfl (by first | rfl | (rw [hst];rfl)) ?_ ?_
  all_goals (try exact clA)
 simp only [tl,tl2,tl4,↓un_u,isCallR,entX,argFr,ret,retI,retB,intT,unT,endR,ressR,resR,tupT,bslR,boxR,lenAll,↓reduceIte,Nat.reduceEqDiff,Nat.reduceAdd,Nat.reduceMul,Nat.reduceLT,Nat.reduceLeDiff,reduceCtorEq,Int.reduceLE,Int.reduceLT,ne_eq,Int.reduceEq,not_false_eq_true,decide_true,decide_false,Int.reduceToNat,tl3,Int.reduceBNe,Int.reduceBEq,rmK,rm1,not_true_eq_false,decide_eq_true_eq,decide_eq_false_iff_not,Bool.or_eq_true,Bool.or_eq_false_iff,Bool.and_eq_true,Bool.and_eq_false_iff]
 refine ⟨fun h5=>?_,fun h5=>?_⟩
 ·have hi2:i < s.data.toList.length:=by omega
  have hwi:=i64_succ (i:=i) (by omega)
  simp only [tl,tl2,tl4,↓un_u,isCallR,entX,argFr,ret,retI,retB,intT,unT,endR,ressR,resR,tupT,bslR,boxR,lenAll,↓reduceIte,Nat.reduceEqDiff,Nat.reduceAdd,Nat.reduceMul,Nat.reduceLT,Nat.reduceLeDiff,reduceCtorEq,Int.reduceLE,Int.reduceLT,ne_eq,Int.reduceEq,not_false_eq_true,decide_true,decide_false,Int.reduceToNat,tl3,Int.reduceBNe,Int.reduceBEq,rmK,rm1,not_true_eq_false,Int.toNat_natCast,getD_mapT hi2,hwi,byteT]
  refine ⟨by omega,fun h6=>?_,fun h6=>?_⟩
  ·have hb:chBad s.data.toList[i] = true:=h6
   have:nameB s = false:=by
    unfold nameB
    rw [show s.data.toList.any chBad = true from List.any_eq_true.2 ⟨_,List.getElem_mem hi2,hb⟩]
    simp
   rw [this]
   refine .of [] [] rfl (by first | rfl | (rw [hst];rfl)) ?_ ?_
   all_goals (try exact clA)
  ·have hb:chBad s.data.toList[i] = false:=h6
   refine ⟨i + 1,⟨by omega,any_snoc hi2 hi.2 hb⟩,by omega,?_⟩
   refine .of [] [] rfl (by first | rfl | (rw [hst];rfl)) ?_ ?_
   all_goals (try exact clA)
 ·have h3:=hi.2
  have:i = s.data.toList.length:=by omega
  rw [this,List.take_length] at h3
  have hn:nameB s = !(resW.contains s.toList):=by unfold nameB;rw [hd,h3];rfl
  rw [hn]
  simp only [resW,List.contains_cons,List.contains_nil]
  repeat' (first | with_reducible apply And.intro | with_reducible intro _)
  all_goals first
   | (exfalso;simp_all;done)
   | (simp only [*,Bool.true_or,Bool.or_true,Bool.false_or,Bool.or_false,Bool.not_true,Bool.not_false];exact .imR rfl rfl)
end Go.Proofs
