/- A part of the proof: trees of Go values, short forms, contracts. -/
import Derived.WalkKit
import Derived.Still
import Derived.MapKept
import GoSem.Builtin.Cap
import Derived.Laws.Externs
import GoSem.Extern.SlicesOverlaps
import Derived.Carry
import Derived.ProofKit
import Derived.OpenShut
import Derived.HandedShaped
import Derived.Lay
import Derived.LaidLaws
import Derived.MakeChecks
import Derived.SevenTiedAt
import Derived.Test.YtlpllebfjgflaaaGreatDoorChecked
import Derived.Test.YtlpllebfjgflaaaGreatDoorK18
set_option linter.unusedSimpArgs false
set_option linter.unusedVariables false
namespace Go.Proofs
open Go Go.TL
set_option maxRecDepth 4000
set_option maxHeartbeats 8000000
open So
theorem KH (l:List Int) (x:Int) (i:Nat) (hi:i≤l.length) (hl:l.length < 1000000000000) :
 Spc Tryz.prog ke [.vw 0 l.length 0 l.length,vI i,.sl 1 [vI x]] [(0,.arr 1 (l.map vI) false)] (.asl 1 (l.length + 1)) [(0,.dead),(1,.arr 1 ((l.take i ++ x :: l.drop i).map vI) false)]:=by
 refine we [7,8,10] JW mixm (by simp) fun e _ hst=>qj ?_
 unfold jM
 simp only [QM,List.contains_cons,List.contains_nil,Nat.reduceBEq,Bool.or_false,Bool.or_true,Bool.true_or,Bool.false_or,cond_true,cond_false]
 simp only [tl,tl2,tl4,↓un_u,qQ,entX,kz,ret,retI,retB,intT,unT,endR,wz,resR,tupT,bslR,boxR,jj,↓reduceIte,Nat.reduceEqDiff,Nat.reduceAdd,Nat.reduceMul,Nat.reduceLT,Nat.reduceLeDiff,reduceCtorEq,Int.reduceLE,Int.reduceLT,ne_eq,Int.reduceEq,not_false_eq_true,decide_true,decide_false,Int.reduceToNat,tl3,Int.reduceBNe,Int.reduceBEq,rmK,rm1,not_true_eq_false,List.drop_zero,List.take_of_length_le (show (l.map vI).length≤l.length by simp),show (((1:Nat):Int) == 0) = false from rfl]
 have e1:(i:Int).toNat = i:=Int.toNat_natCast _
 refine ⟨by omega,fun h=>?_,fun h=>?_⟩
 ·have h2:i = l.length:=by have:=beq_iff_eq.1 h;omega
  subst h2
  refine W_le _ _ (Le.cut 0 5 l.length (by rfl) (by rfl) (by simp)) ?_
  simp only [zb4,yi,cut2,cut1,cut0]
  simp only [tl,tl2,tl4,↓un_u,qQ,entX,kz,ret,retI,retB,intT,unT,endR,wz,resR,tupT,bslR,boxR,jj,↓reduceIte,Nat.reduceEqDiff,Nat.reduceAdd,Nat.reduceMul,Nat.reduceLT,Nat.reduceLeDiff,reduceCtorEq,Int.reduceLE,Int.reduceLT,ne_eq,Int.reduceEq,not_false_eq_true,decide_true,decide_false,Int.reduceToNat,tl3,Int.reduceBNe,Int.reduceBEq,rmK,rm1,not_true_eq_false,List.length_map,List.take_of_length_le (show (l.map vI).length≤l.length by simp)]
  refine ⟨by omega,?_⟩
  refine .of [(0,some 0),(1,some 5)] [] rfl (by first | rfl | (rw [hst];rfl)) ?_ ?_
  all_goals (try simp only [jy,ltO2,ltO1,ltAs,ltA,ltC,ltC0,Zc,ltCs,ltT,ltFr,ltS,wrOk,wrO,TL.get,KX,↓reduceIte,Nat.reduceEqDiff,reduceCtorEq,Option.getD_some,Option.isSome_some,List.length_map,List.length_append,List.length_cons,List.length_nil,List.append_nil,List.mem_singleton,List.mem_cons,List.not_mem_nil,and_true,true_and,and_self,imp_self,forall_const,false_implies,implies_true,true_implies,or_false,Bool.false_eq_true,Bool.true_eq_false,kJ,true_or,or_true,false_or,false_and,and_false,rmK,rm1,List.map_append,List.map_cons,List.map_nil,List.cons_append,List.nil_append,List.take_length,List.drop_length])
  all_goals (try (repeat' (first | exact qT | (apply zh;intro _;exact ⟨rfl,rfl⟩) | (apply qt;intro _;exact ⟨rfl,rfl⟩) | with_reducible apply qS | with_reducible refine qW ⟨rfl,rfl⟩ ?_ | exact zi | with_reducible apply qJ | with_reducible refine qD ⟨rfl,rfl,?_⟩ ?_ | with_reducible apply And.intro | exact qK rfl | exact qK (by assumption) | (refine ⟨⟨?_,rfl,?_,rfl,?_⟩,trivial⟩ <;> first | (simp;done) | (apply qt;intro _;exact ⟨rfl,rfl⟩)) | trivial | rfl | (rw [qh (by omega)]) | omega)))
 have h2:i < l.length:=by have:=beq_eq_false_iff_ne.1 h;omega
 refine zJ8 0 (by rfl) (by rfl) fun c hc1 hc2=>?_
 simp only [qG2,KV,zc7]
 rw [List.length_map] at hc1
 have hw:IntKind.i64.wrap ((l.length:Int) + ((1:Nat):Int)) = ((l.length + 1:Nat):Int):=by rw [IntWalk.i64_in _ (by omega)];omega
 have hw2:IntKind.i64.wrap (((l.length + 1:Nat):Int) - (i:Int)) = ((l.length + 1 - i:Nat):Int):=by rw [IntWalk.i64_in _ (by omega)];omega
 have hw3:IntKind.i64.wrap ((i:Int) + ((1:Nat):Int)) = ((i + 1:Nat):Int):=by rw [IntWalk.i64_in _ (by omega)];omega
 have e2:((l.length + 1:Nat):Int).toNat = l.length + 1:=Int.toNat_natCast _
 have e3:((i + 1:Nat):Int).toNat = i + 1:=Int.toNat_natCast _
 have e4:((l.length + 1 - i:Nat):Int).toNat = l.length + 1 - i:=Int.toNat_natCast _
 have e5:((c:Nat):Int).toNat = c:=Int.toNat_natCast _
 obtain ⟨J,hJ⟩:∃ J,J = List.replicate (c - l.length) (Yr 1):=⟨_,rfl⟩
 have hJl:J.length = c - l.length:=by rw [hJ,List.length_replicate]
 simp only [List.length_map,← hJ]
 simp only [tl,tl2,tl4,↓un_u,qQ,entX,kz,ret,retI,retB,intT,unT,endR,wz,resR,tupT,bslR,boxR,jj,↓reduceIte,Nat.reduceEqDiff,Nat.reduceAdd,Nat.reduceMul,Nat.reduceLT,Nat.reduceLeDiff,reduceCtorEq,Int.reduceLE,Int.reduceLT,ne_eq,Int.reduceEq,not_false_eq_true,decide_true,decide_false,Int.reduceToNat,tl3,Int.reduceBNe,Int.reduceBEq,rmK,rm1,not_true_eq_false,List.length_map,e1,e2,e3,e4,e5,hw,hw2,hw3,hJl,Nat.sub_zero,Nat.zero_add,List.drop_zero,decide_eq_true_eq,decide_eq_false_iff_not]
 refine ⟨by omega,fun h3=>⟨by omega,by omega,?_⟩,fun h3=>⟨by omega,?_⟩⟩
 ·have h4:c = l.length:=by omega
  subst h4
  have hJ0:J = []:=List.eq_nil_of_length_eq_zero (by rw [hJl];omega)
  clear hJ
  subst hJ0
  have e6:i + (l.length + 1 - i) = l.length + 1:=by omega
  simp only [List.append_nil,← List.map_take,e6]
  have hz:∀ m,ImXs 1 (List.replicate m (.v (.int .i64 0))):=fun m y hy=>by rw [(List.mem_replicate.1 hy).2];exact ⟨rfl,rfl⟩
  refine W_le [(0,.vw 0 l.length 0 l.length),(1,vI i),(2,.sl 1 [vI x]),(7,vI (1:Nat)),(9,.vw 40992 (l.length + 1) 0 (l.length + 1))] [(0,.arr 1 (l.map vI) false),(40992,.arr 1 ((l.take i).map vI ++ List.replicate (l.length + 1 - i) (.v (.int .i64 0))) false)] ?_ ?_
  ·refine .of [(0,some 0),(40992,some 40992)] [] rfl (by first | rfl | (rw [hst];rfl)) ?_ ?_
   all_goals (try simp only [jy,ltO2,ltO1,ltAs,ltA,ltC,ltC0,Zc,ltCs,ltT,ltFr,ltS,wrOk,wrO,TL.get,KX,↓reduceIte,Nat.reduceEqDiff,reduceCtorEq,Option.getD_some,Option.isSome_some,List.length_map,List.length_append,List.length_cons,List.length_nil,List.append_nil,List.mem_singleton,List.mem_cons,List.not_mem_nil,and_true,true_and,and_self,imp_self,forall_const,false_implies,implies_true,true_implies,or_false,Bool.false_eq_true,Bool.true_eq_false,kJ,true_or,or_true,false_or,false_and,and_false,rmK,rm1,List.map_append,List.map_cons,List.map_nil,List.cons_append,List.nil_append])
   all_goals (try (repeat' (first | exact qT | (apply zh;intro _;exact ⟨rfl,rfl⟩) | (apply qt;intro _;exact ⟨rfl,rfl⟩) | with_reducible apply qS | with_reducible refine qW ⟨rfl,rfl⟩ ?_ | exact zi | with_reducible apply qJ | with_reducible refine qD ⟨rfl,rfl,?_⟩ ?_ | with_reducible apply And.intro | exact qK rfl | exact qK (by assumption) | (refine ⟨⟨?_,rfl,?_,rfl,?_⟩,trivial⟩ <;> first | (simp;done) | (apply qt;intro _;exact ⟨rfl,rfl⟩)) | trivial | rfl | (rw [qh (by omega)]) | omega)))
   exact zL (hz _)
  have k1:min 1 (l.length + 1 - i) = 1:=by omega
  have k2:min i l.length = i:=by omega
  have k3:min (l.length - i) (l.length + 1 - (i + 1)) = l.length - i:=by omega
  have k4:(1:Nat) + (l.length + 1 - i - 1) = l.length + 1 - i:=by omega
  simp only [tl,tl2,tl4,↓un_u,qQ,entX,kz,ret,retI,retB,intT,unT,endR,wz,resR,tupT,bslR,boxR,jj,↓reduceIte,Nat.reduceEqDiff,Nat.reduceAdd,Nat.reduceMul,Nat.reduceLT,Nat.reduceLeDiff,reduceCtorEq,Int.reduceLE,Int.reduceLT,ne_eq,Int.reduceEq,not_false_eq_true,decide_true,decide_false,Int.reduceToNat,tl3,Int.reduceBNe,Int.reduceBEq,rmK,rm1,not_true_eq_false,List.length_map,List.length_append,List.length_replicate,List.length_take,List.length_drop,e1,e2,e3,e4,e5,hw,hw2,hw3,Nat.sub_zero,Nat.zero_add,List.drop_zero,k1,k2,k3,Nat.min_self,e6]
  refine ⟨by omega,by omega,by omega,by omega,by omega,by kernel_rfl,?_⟩
  rw [qR9 (l.map vI) ((l.take i).map vI) (List.replicate (l.length + 1 - i) (.v (.int .i64 0))) (vI x) i l.length (by simp) (by simp;omega) (by simp) h2]
  refine .cutv 1 rfl ?_ rfl ?_ ?_
  ·simp only [List.length_append,List.length_drop,List.length_map,List.length_cons,List.length_take];omega
  ·simp only [List.length_append,List.length_drop,List.length_map,List.length_cons,List.length_take];omega
  simp only [yi]
  rw [List.take_of_length_le (by simp only [List.length_append,List.length_drop,List.length_map,List.length_cons,List.length_take];omega)]
  simp only [List.map_append,List.map_cons,List.map_drop]
  refine .of [(0,some 0),(1,some 1)] [] rfl (by first | rfl | (rw [hst];rfl)) ?_ ?_
  all_goals (try simp only [jy,ltO2,ltO1,ltAs,ltA,ltC,ltC0,Zc,ltCs,ltT,ltFr,ltS,wrOk,wrO,TL.get,KX,↓reduceIte,Nat.reduceEqDiff,reduceCtorEq,Option.getD_some,Option.isSome_some,List.length_map,List.length_append,List.length_cons,List.length_nil,List.append_nil,List.mem_singleton,List.mem_cons,List.not_mem_nil,and_true,true_and,and_self,imp_self,forall_const,false_implies,implies_true,true_implies,or_false,Bool.false_eq_true,Bool.true_eq_false,kJ,true_or,or_true,false_or,false_and,and_false,rmK,rm1,List.map_append,List.map_cons,List.map_nil,List.cons_append,List.nil_append])
  all_goals (try (repeat' (first | exact qT | (apply zh;intro _;exact ⟨rfl,rfl⟩) | (apply qt;intro _;exact ⟨rfl,rfl⟩) | with_reducible apply qS | with_reducible refine qW ⟨rfl,rfl⟩ ?_ | exact zi | with_reducible apply qJ | with_reducible refine qD ⟨rfl,rfl,?_⟩ ?_ | with_reducible apply And.intro | exact qK rfl | exact qK (by assumption) | (refine ⟨⟨?_,rfl,?_,rfl,?_⟩,trivial⟩ <;> first | (simp;done) | (apply qt;intro _;exact ⟨rfl,rfl⟩)) | trivial | rfl | (rw [qh (by omega)]) | omega)))
  all_goals (simp only [← List.map_drop,← List.map_take];apply zh;intro _;exact ⟨rfl,rfl⟩)
 refine ⟨by omega,?_⟩
 refine C1.ovl ZC (by decide) rfl rfl (by rw [List.length_append,List.length_map,hJl];omega) ?_
 have k1:min 1 (l.length + 1 - i) = 1:=by omega
 have k2:l.length + (c - l.length) = c:=by omega
 have k3:min (min (l.length + 1 - i) (c - i)) (l.length + 1 - (i + 1)) = l.length - i:=by omega
 have k4:min (i + 1) c = i + 1:=by omega
 simp only [tl,tl2,tl4,↓un_u,qQ,entX,kz,ret,retI,retB,intT,unT,endR,wz,resR,tupT,bslR,boxR,jj,↓reduceIte,Nat.reduceEqDiff,Nat.reduceAdd,Nat.reduceMul,Nat.reduceLT,Nat.reduceLeDiff,reduceCtorEq,Int.reduceLE,Int.reduceLT,ne_eq,Int.reduceEq,not_false_eq_true,decide_true,decide_false,Int.reduceToNat,tl3,Int.reduceBNe,Int.reduceBEq,rmK,rm1,not_true_eq_false,List.length_map,List.length_append,List.length_take,List.length_drop,hJl,e1,e2,e3,e4,e5,hw,hw2,hw3,Nat.sub_zero,Nat.zero_add,List.drop_zero,k1,k2,k3,k4,Nat.min_self]
 refine ⟨by omega,by omega,by omega,by kernel_rfl,by omega,by omega,?_⟩
 rw [qR8 (l.map vI) J (vI x) i l.length (by simp) h2]
 have hfl:(List.take i (List.map vI l) ++ vI x :: List.drop i (List.map vI l)).length = l.length + 1:=by
  simp only [List.length_append,List.length_drop,List.length_map,List.length_cons,List.length_take];omega
 refine .cutv 1 rfl ?_ rfl ?_ ?_
 ·rw [List.length_append,hfl,List.length_drop,hJl];omega
 ·rw [List.length_append,hfl,List.length_drop,hJl];omega
 simp only [yi]
 rw [List.take_append_of_le_length (by rw [hfl];exact Nat.le_refl _),List.take_of_length_le (by rw [hfl];exact Nat.le_refl _)]
 simp only [List.map_append,List.map_cons,List.map_drop,List.map_take]
 refine .of [(0,some 0),(1,some 1)] [] rfl (by first | rfl | (rw [hst];rfl)) ?_ ?_
 all_goals (try simp only [jy,ltO2,ltO1,ltAs,ltA,ltC,ltC0,Zc,ltCs,ltT,ltFr,ltS,wrOk,wrO,TL.get,KX,↓reduceIte,Nat.reduceEqDiff,reduceCtorEq,Option.getD_some,Option.isSome_some,List.length_map,List.length_append,List.length_cons,List.length_nil,List.append_nil,List.mem_singleton,List.mem_cons,List.not_mem_nil,and_true,true_and,and_self,imp_self,forall_const,false_implies,implies_true,true_implies,or_false,Bool.false_eq_true,Bool.true_eq_false,kJ,true_or,or_true,false_or,false_and,and_false,rmK,rm1,List.map_append,List.map_cons,List.map_nil,List.cons_append,List.nil_append])
 all_goals (try (repeat' (first | exact qT | (apply zh;intro _;exact ⟨rfl,rfl⟩) | (apply qt;intro _;exact ⟨rfl,rfl⟩) | with_reducible apply qS | with_reducible refine qW ⟨rfl,rfl⟩ ?_ | exact zi | with_reducible apply qJ | with_reducible refine qD ⟨rfl,rfl,?_⟩ ?_ | with_reducible apply And.intro | exact qK rfl | exact qK (by assumption) | (refine ⟨⟨?_,rfl,?_,rfl,?_⟩,trivial⟩ <;> first | (simp;done) | (apply qt;intro _;exact ⟨rfl,rfl⟩)) | trivial | rfl | (rw [qh (by omega)]) | omega)))
 all_goals (simp only [← List.map_drop,← List.map_take];apply zh;intro _;exact ⟨rfl,rfl⟩)
theorem yd (l:List (List Int)) (i:Nat) (hi:i < l.length) (hl:l.length < 4611686018427387904) :
 Spc Tryz.prog jG [.vw 0 l.length 0 l.length,vI i,vI (i + 1:Nat)] [(0,.arr 1 (l.map vIs) false)] (.asl 1 (l.length - 1)) [(0,.dead),(1,.arr 1 ((l.eraseIdx i).map vIs) false)]:=by
 refine qd Jt mixm (by simp) fun e _ hst=>qj ?_
 unfold ju
 simp only [tl,tl2,tl4,↓un_u,qQ,entX,kz,ret,retI,retB,intT,unT,endR,wz,resR,tupT,bslR,boxR,jj,↓reduceIte,Nat.reduceEqDiff,Nat.reduceAdd,Nat.reduceMul,Nat.reduceLT,Nat.reduceLeDiff,reduceCtorEq,Int.reduceLE,Int.reduceLT,ne_eq,Int.reduceEq,not_false_eq_true,decide_true,decide_false,Int.reduceToNat,tl3,Int.reduceBNe,Int.reduceBEq,rmK,rm1,not_true_eq_false,List.drop_zero,List.take_of_length_le (show (l.map vIs).length≤l.length by simp)]
 have h1:((i:Int) == ((i + 1:Nat):Int)) = false:=by simp;omega
 simp only [tl,tl2,tl4,↓un_u,qQ,entX,kz,ret,retI,retB,intT,unT,endR,wz,resR,tupT,bslR,boxR,jj,↓reduceIte,Nat.reduceEqDiff,Nat.reduceAdd,Nat.reduceMul,Nat.reduceLT,Nat.reduceLeDiff,reduceCtorEq,Int.reduceLE,Int.reduceLT,ne_eq,Int.reduceEq,not_false_eq_true,decide_true,decide_false,Int.reduceToNat,tl3,Int.reduceBNe,Int.reduceBEq,rmK,rm1,not_true_eq_false,h1]
 have e0:(l.length:Int).toNat = l.length:=Int.toNat_natCast _
 have e1:(i:Int).toNat = i:=Int.toNat_natCast _
 have e2:((i + 1:Nat):Int).toNat = i + 1:=Int.toNat_natCast _
 have e3:(List.take (l.length - (i + 1)) (List.drop (i + 1) (List.map vIs l))) = (l.drop (i + 1)).map vIs:=by
  rw [← List.map_drop,List.take_of_length_le (by simp)]
 simp only [e0,e1,e2,e3,List.length_map,List.length_drop,Nat.sub_zero,Nat.zero_add]
 have ht:(List.take i (List.map vIs l)).length = i:=by rw [List.length_take,List.length_map];omega
 have e4:i + (l.length - (i + 1)) = l.length - 1:=by omega
 have e5:l.length - (l.length - 1) = 1:=by omega
 simp only [ht,e4,e5]
 refine ⟨by omega,by omega,by omega,⟨by omega,by omega⟩,by kernel_rfl,?_⟩
 have e6:((l.length - 1:Nat):Int).toNat = l.length - 1:=Int.toNat_natCast _
 rw [e6]
 refine ⟨by omega,by omega,by omega,?_⟩
 refine .cutv 1 rfl ?_ rfl ?_ ?_
 ·simp only [List.length_append,List.length_take,List.length_drop,List.length_map,List.length_replicate];omega
 ·simp only [List.length_append,List.length_take,List.length_drop,List.length_map,List.length_replicate];omega
 have hcut:∀ a b c:List T,a.length = l.length - 1→(a ++ b ++ c).take (l.length - 1) = a:=fun a b c h=>by
  rw [List.append_assoc,List.take_append_of_le_length (by omega),List.take_of_length_le (by omega)]
 have hcut2:∀ a c:List T,a.length = l.length - 1→(a ++ c).take (l.length - 1) = a:=fun a c h=>by
  rw [List.take_append_of_le_length (by omega),List.take_of_length_le (by omega)]
 have hfin:(List.take (l.length - 1) (List.take i (List.map vIs l) ++ List.map vIs (List.drop (i + 1) l) ++ List.drop (l.length - 1) (List.map vIs l))) = (l.eraseIdx i).map vIs:=by
  rw [hcut2 _ _ (by simp only [List.length_append,List.length_take,List.length_drop,List.length_map];omega),List.eraseIdx_eq_take_drop_succ,List.map_append,List.map_take]
 simp only [yi,hfin]
 rw [hcut _ _ _ (by rw [List.length_map,List.length_eraseIdx_of_lt hi])]
 exact .oA [(0,some 0),(1,some 1)] []
end Go.Proofs
namespace Go.Proofs
open Go Go.TL
set_option maxRecDepth 4000
set_option maxHeartbeats 8000000
abbrev ownO (s:Sch) (i n j m:Nat) (v:Int):Ob:=.arr 5 [.agg [.sl 2 (s.lists.map cdlT),.sl 7 (s.cols.map colT),.asl i n,.asl j m,vI v]] false
abbrev qJ3 (s:Src):Sto:=[(0,ownO s.sch 1 s.rows.length 2 s.gone.length s.ver),(1,.arr 1 (s.rows.map vIs) false),(2,.arr 1 (s.gone.map vI) false)]
def putE (s:Src) (r:List Int) (rep:Bool):Int:=
 if rowE s.sch r≠0 then 9 else if s.gone.contains (hd r) = true then 20 else if rep = true∧hasK s.rows (hd r) = false then 19
 else if rep = true then 0 else if hasK s.rows (hd r) = true then 10 else if s.rows.length = 200 then 1 else 0
theorem SrcOk.rw {s:Src} (h:SrcOk s):RwId s.rows:=⟨h.asc,fun r hr=>jx (h.rows r hr),fun r hr=>zx2 (h.rows r hr),by have:=h.nr;omega⟩
abbrev qU0 (s:Src) (r:List Int):Sto:=[(0,ownO s.sch 1 s.rows.length 2 s.gone.length s.ver),(1,.arr 1 ((s.rows.set (fndN s.rows (hd r)) r).map vIs) false),(2,.arr 1 (s.gone.map vI) false)]
abbrev insR (l:List (List Int)) (r:List Int):List (List Int):=l.take (fndN l (hd r)) ++ r :: l.drop (fndN l (hd r))
abbrev qU1 (s:Src) (r:List Int):Sto:=[(0,ownO s.sch 3 (s.rows.length + 1) 2 s.gone.length s.ver),(1,.dead),(2,.arr 1 (s.gone.map vI) false),(3,.arr 1 ((insR s.rows r).map vIs) false)]
theorem qE1 (s:Src) (h:SrcOk s) (r:List Int) (rep:Bool) (hr:r.length < 4611686018427387904) (St:Sto) (hb:putE s r rep≠0→St = qJ3 s) (hre:putE s r rep = 0→rep = true→St = qU0 s r) (had:putE s r rep = 0→rep = false→St = qU1 s r) :
 Spc Tryz.prog Jg [.ptr 0 1 0 0,vIs r,vB rep] (qJ3 s) (vI (putE s r rep)) St:=by
 have hV:putE s r rep = if rowE s.sch r≠0 then 9 else if s.gone.contains (hd r) = true then 20 else if rep = true∧hasK s.rows (hd r) = false then 19 else if rep = true then 0 else if hasK s.rows (hd r) = true then 10 else if s.rows.length = 200 then 1 else 0:=rfl
 generalize putE s r rep = E at hb hre had hV ⊢
 have hF:=ZF s.sch h.sch r hr
 refine qd qs0 mixm (by simp) fun e _ hst=>qj ?_
 unfold Zw
 refine sW ?_
 refine C1.im hF (by rfl) (by rfl) ?_
 simp only [tZ,↓un_u,simprocAttr,Bool.not_eq_true',Bool.not_eq_false',beq_iff_eq,beq_eq_false_iff_ne]
 refine ⟨fun h1=>?_,fun h1=>?_⟩
 ·rw [if_pos h1] at hV
  rw [hb (by rw [hV];decide),hV]
  exact .oA [(0,some 0),(1,some 1),(2,some 2)] []
 rw [if_neg (by rw [h1];simp)] at hV
 have hpr:=jx h1
 have hgi:=zu hpr
 have hng:=h.ng
 have hct:=JB s.gone (hd r) (by omega)
 have hid:=zx2 h1
 have hpl:=Kh s (hd r) h.rw (by unfold idOk;omega)
 rw [qt7 h.rw hid] at hpl
 simp only [tZ,↓un_u,simprocAttr,Int.toNat_natCast,hgi]
 refine ⟨by omega,?_⟩
 refine C1.lend [2] hct ?_ (by rfl) (by rfl) ?_
 ·all_goals (try exact clA)
 simp only [tZ,↓un_u,simprocAttr,hgi]
 refine ⟨by kernel_rfl,fun h2=>?_,fun h2=>?_⟩
 ·rw [if_pos h2] at hV
  rw [hb (by rw [hV];decide),hV]
  exact .oA [(0,some 0),(1,some 1),(2,some 2)] []
 rw [if_neg (by rw [h2];simp)] at hV
 refine ⟨by omega,?_⟩
 refine C1.lend [1,2] hpl ?_ (by rfl) (by rfl) ?_
 ·all_goals (try exact clA)
 have hnr:=h.nr
 have hcl:=kX r (by have:=(QH h1).2.1;have:=(jb h.sch).nc;omega)
 simp only [tZ,↓un_u,simprocAttr,tD,Bool.not_eq_true',Bool.not_eq_false',beq_iff_eq,beq_eq_false_iff_ne]
 refine ⟨by kernel_rfl,fun h3=>?_,fun h3=>⟨fun h4=>?_,fun h4=>⟨fun h5=>?_,fun h5=>⟨fun h6=>?_,fun h6=>?_⟩⟩⟩⟩
 ·rw [if_pos h3] at hV
  rw [hb (by rw [hV];decide),hV]
  exact .oA [(0,some 0),(1,some 1),(2,some 2)] []
 ·rw [if_neg (by rw [h4] at h3 ⊢;simpa using h3),if_pos h4] at hV
  have hk:hasK s.rows (hd r) = true:=by rw [h4] at h3;simpa using h3
  obtain ⟨f2,f3⟩:=JC h.asc hk
  rw [hre hV h4,hV]
  refine C1.im hcl (by rfl) (by rfl) ?_
  simp only [tZ,↓un_u,simprocAttr,Int.toNat_natCast,qe f2,show ∀ a b:List Int,repl (vIs a) 0 (vIs b) = vIs b from fun _ _=>rfl]
  refine ⟨by omega,by omega,by kernel_rfl,?_⟩
  rw [← List.map_set]
  exact .oA [(0,some 0),(1,some 1),(2,some 2)] []
 ·rw [if_neg (by rw [h4];simp),if_neg (by rw [h4];simp),if_pos h5] at hV
  rw [hb (by rw [hV];decide),hV]
  exact .oA [(0,some 0),(1,some 1),(2,some 2)] []
 ·rw [if_neg (by rw [h4];simp),if_neg (by rw [h4];simp),if_neg (by rw [h5];simp),if_pos (by omega)] at hV
  rw [hb (by rw [hV];decide),hV]
  exact .oA [(0,some 0),(1,some 1),(2,some 2)] []
 ·rw [if_neg (by rw [h4];simp),if_neg (by rw [h4];simp),if_neg (by rw [h5];simp),if_neg (by omega)] at hV
  rw [had hV h4,hV]
  have hfl:=zp2 s.rows (hd r)
  have hin:=JZ s.rows r (fndN s.rows (hd r)) hfl (by omega)
  refine C1.im hcl (by rfl) (by rfl) ?_
  refine sW ?_
  refine C1.cutbackF 1 28708 1 28704 hin rfl rfl (by apply qt;intro _;exact ⟨rfl,rfl⟩) (by apply qt;intro _;exact ⟨rfl,rfl⟩) (by rfl) (by decide) ?_ ?_
  ·all_goals (try exact clA)
  refine sW ?_
  refine ⟨by rw [List.length_take,List.length_drop];omega,by kernel_rfl,?_⟩
  exact .oA [(0,some 0),(1,some 1),(2,some 2),(3,some 28708)] []
end Go.Proofs
namespace Go.Proofs
open Go Go.TL
set_option maxRecDepth 4000
set_option maxHeartbeats 8000000
def chgE (s:Src) (d:Edt):Int:=
 if d.kind = 1∨d.kind = 2 then putE s d.row (d.kind == 2) else if d.kind = 3 then (if hasK s.rows d.id = false then 19 else 0)
 else if d.kind = 4 then (if d.id < 1∨d.id > 1048575 then 2 else if s.gone.contains d.id = true then 20 else 0) else 4
abbrev delR (l:List (List Int)) (id:Int):List (List Int):=l.eraseIdx (fndN l id)
abbrev insG (l:List Int) (id:Int):List Int:=l.take (insN l id) ++ id :: l.drop (insN l id)
abbrev zE2 (s:Src) (id:Int):Sto:=[(0,ownO s.sch 3 (s.rows.length - 1) 2 s.gone.length s.ver),(1,.dead),(2,.arr 1 (s.gone.map vI) false),(3,.arr 1 ((delR s.rows id).map vIs) false)]
abbrev zO4 (s:Src) (id:Int):Sto:=[(0,ownO s.sch 1 s.rows.length 4 (s.gone.length + 1) s.ver),(1,.arr 1 (s.rows.map vIs) false),(2,.dead),(4,.arr 1 ((insG s.gone id).map vI) false)]
abbrev zE3 (s:Src) (id:Int):Sto:=[(0,ownO s.sch 3 (s.rows.length - 1) 4 (s.gone.length + 1) s.ver),(1,.dead),(2,.dead),(3,.arr 1 ((delR s.rows id).map vIs) false),(4,.arr 1 ((insG s.gone id).map vI) false)]
theorem qg4 (s:Src) (h:SrcOk s) (d:Edt) (hr:d.row.length < 4611686018427387904) (hi:idOk d.id) (St:Sto) (hb:chgE s d≠0→St = qJ3 s) (h1:chgE s d = 0→d.kind = 1→St = qU1 s d.row) (h2:chgE s d = 0→d.kind = 2→St = qU0 s d.row)
 (h3:chgE s d = 0→d.kind = 3→St = zE2 s d.id) (h4:chgE s d = 0→d.kind = 4→St = if hasK s.rows d.id = true then zE3 s d.id else zO4 s d.id) :
 Spc Tryz.prog yF [.ptr 0 1 0 0,edtT d] (qJ3 s) (vI (chgE s d)) St:=by
 have hV:chgE s d = if d.kind = 1∨d.kind = 2 then putE s d.row (d.kind == 2) else if d.kind = 3 then (if hasK s.rows d.id = false then 19 else 0)
  else if d.kind = 4 then (if d.id < 1∨d.id > 1048575 then 2 else if s.gone.contains d.id = true then 20 else 0) else 4:=rfl
 generalize chgE s d = E at hb h1 h2 h3 h4 hV ⊢
 have hpl:=Kh s d.id h.rw hi
 have hnr:=h.nr
 have hng:=h.ng
 refine qd Yw mixm (by simp) fun e _ hst=>qj ?_
 unfold wP
 refine sW ?_
 refine C1.lend [1,2] hpl ?_ (by rfl) (by rfl) ?_
 ·all_goals (try exact clA)
 simp only [tZ,↓un_u,simprocAttr,tD,beq_iff_eq,beq_eq_false_iff_ne,Bool.not_eq_true',Bool.not_eq_false']
 have hP:=qE1 s h d.row (d.kind == 2) hr St
 refine ⟨by kernel_rfl,fun k1=>⟨fun _=>?_,fun k=>absurd k1 k⟩,fun k1=>⟨fun k2=>?_,fun k2=>?_⟩⟩
 ·rw [if_pos (.inl k1)] at hV
  have hP:=hP (fun e=>hb (by rw [hV];exact e)) (fun e r=>by rw [k1] at r;cases r) (fun e _=>h1 (by rw [hV];exact e) k1)
  have hPE:putE s d.row (d.kind == 2) = E:=hV.symm
  rw [hPE] at hP
  by_cases hE:E = 0
  ·rw [h1 hE k1,hE] at hP
   rw [h1 hE k1,hE]
   refine C1.of [(0,some 0),(1,some 1),(2,some 2)] [(0,some 0),(2,some 2),(3,some 3)] [] (qU1 s d.row) hP ?_ (by rfl) ?_ (by rfl) (by rfl) ?_ (by rfl) (by rfl) (wA (by rfl)) (.inl (by rfl)) ?_
   ·all_goals (try exact clA)
   ·all_goals (try exact clA)
   ·simp only [wrOk,wrO,TL.get,ltO1]
    all_goals (try exact clA)
   refine sW ?_
   exact .oA [(0,some 0),(1,some 1),(2,some 2),(3,some 3)] []
  ·rw [hb hE] at hP ⊢
   refine C1.of [(0,some 0),(1,some 1),(2,some 2)] [(0,some 0),(1,some 1),(2,some 2)] [] (qJ3 s) hP ?_ (by rfl) ?_ (by rfl) (by rfl) ?_ (by rfl) (by rfl) (wA (by rfl)) (.inl (by rfl)) ?_
   ·all_goals (try exact clA)
   ·all_goals (try exact clA)
   ·simp only [wrOk,wrO,TL.get,ltO1]
    all_goals (try exact clA)
   refine sW ?_
   exact .oA [(0,some 0),(1,some 1),(2,some 2)] []
 ·rw [if_pos (.inr k2)] at hV
  have hP:=hP (fun e=>hb (by rw [hV];exact e)) (fun e r=>h2 (by rw [hV];exact e) k2) (fun e r=>by rw [k2] at r;cases r)
  have hPE:putE s d.row (d.kind == 2) = E:=hV.symm
  rw [hPE] at hP
  by_cases hE:E = 0
  ·rw [h2 hE k2,hE] at hP
   rw [h2 hE k2,hE]
   refine C1.of [(0,some 0),(1,some 1),(2,some 2)] [(0,some 0),(1,some 1),(2,some 2)] [] (qU0 s d.row) hP ?_ (by rfl) ?_ (by rfl) (by rfl) ?_ (by rfl) (by rfl) (wA (by rfl)) (.inl (by rfl)) ?_
   ·all_goals (try exact clA)
   ·all_goals (try exact clA)
   ·simp only [wrOk,wrO,TL.get,ltO1]
    all_goals (try exact clA)
   refine sW ?_
   exact .oA [(0,some 0),(1,some 1),(2,some 2)] []
  ·rw [hb hE] at hP ⊢
   refine C1.of [(0,some 0),(1,some 1),(2,some 2)] [(0,some 0),(1,some 1),(2,some 2)] [] (qJ3 s) hP ?_ (by rfl) ?_ (by rfl) (by rfl) ?_ (by rfl) (by rfl) (wA (by rfl)) (.inl (by rfl)) ?_
   ·all_goals (try exact clA)
   ·all_goals (try exact clA)
   ·simp only [wrOk,wrO,TL.get,ltO1]
    all_goals (try exact clA)
   refine sW ?_
   exact .oA [(0,some 0),(1,some 1),(2,some 2)] []
 rw [if_neg (by omega)] at hV
 refine ⟨fun k3=>⟨fun h5=>?_,fun h5=>⟨fun _=>?_,fun k=>by rw [h5] at k;cases k⟩⟩,fun k3=>⟨fun k4=>?_,fun k4=>?_⟩⟩
 ·rw [if_pos k3,if_pos h5] at hV
  rw [hb (by rw [hV];decide),hV]
  exact .oA [(0,some 0),(1,some 1),(2,some 2)] []
 ·rw [if_pos k3,if_neg (by rw [h5];simp)] at hV
  rw [h3 hV k3,hV]
  have hid:=qt8 h.rw.ids h5
  have hpf:=qt7 h.rw hid
  obtain ⟨f2,_⟩:=JC h.asc h5
  have hw:=qh (i:=fndN s.rows d.id) (by omega)
  have hde:=yd s.rows (fndN s.rows d.id) f2 (by omega)
  rw [hpf,hw]
  refine C1.cut0 1 77860 1 hde rfl (by apply qt;intro _;exact ⟨rfl,rfl⟩) (by apply qt;intro _;exact ⟨rfl,rfl⟩) (by rfl) ?_ ?_
  ·all_goals (try exact clA)
  refine sW ?_
  refine ⟨by rw [List.length_eraseIdx_of_lt f2],?_⟩
  exact .oA [(0,some 0),(1,some 1),(2,some 2),(3,some 77860)] []
 ·rw [if_neg k3,if_pos k4] at hV
  refine ⟨fun h5=>?_,fun h5=>?_⟩
  ·rw [if_pos h5] at hV
   rw [hb (by rw [hV];decide),hV]
   exact .oA [(0,some 0),(1,some 1),(2,some 2)] []
  rw [if_neg (by omega)] at hV
  have hB:=jQ s.gone d.id h.gasc (by omega)
  refine C1.lend [2] hB ?_ (by rfl) (by rfl) ?_
  ·all_goals (try exact clA)
  refine sW ?_
  refine ⟨by kernel_rfl,fun h6=>?_,fun h6=>?_⟩
  ·rw [if_pos h6] at hV
   rw [hb (by rw [hV];decide),hV]
   exact .oA [(0,some 0),(1,some 1),(2,some 2)] []
  rw [if_neg (by rw [h6];simp)] at hV
  have hil:insN s.gone d.id≤s.gone.length:=List.findIdx_le_length
  have hin:=KH s.gone d.id (insN s.gone d.id) hil (by omega)
  have hgl:(insG s.gone d.id).length = s.gone.length + 1:=by rw [List.length_append,List.length_cons,List.length_take,List.length_drop];omega
  have hh:=h4 hV k4
  refine C1.cutbackF 2 69668 1 69664 hin rfl rfl (by apply qt;intro _;exact ⟨rfl,rfl⟩) (by apply qt;intro _;exact ⟨rfl,rfl⟩) (by rfl) (by decide) ?_ ?_
  ·all_goals (try exact clA)
  refine sW ?_
  refine ⟨by rw [List.length_take,List.length_drop];omega,by kernel_rfl,fun h7=>?_,fun h7=>?_⟩
  ·rw [if_pos h7] at hh
   rw [hh,hV]
   have hid:=qt8 h.rw.ids h7
   have hpf:=qt7 h.rw hid
   obtain ⟨f2,_⟩:=JC h.asc h7
   have hw:=qh (i:=fndN s.rows d.id) (by omega)
   have hde:=yd s.rows (fndN s.rows d.id) f2 (by omega)
   rw [hpf,hw]
   refine C1.cut0 1 77860 1 hde rfl (by apply qt;intro _;exact ⟨rfl,rfl⟩) (by apply qt;intro _;exact ⟨rfl,rfl⟩) (by rfl) ?_ ?_
   ·all_goals (try exact clA)
   refine sW ?_
   refine ⟨by rw [List.length_eraseIdx_of_lt f2],?_⟩
   exact .oA [(0,some 0),(1,some 1),(2,some 2),(3,some 77860),(4,some 69668)] []
  ·rw [if_neg (by rw [h7];simp)] at hh
   rw [hh,hV]
   exact .oA [(0,some 0),(1,some 1),(2,some 2),(4,some 69668)] []
 ·rw [if_neg k3,if_neg k4] at hV
  rw [hb (by rw [hV];decide),hV]
  exact .oA [(0,some 0),(1,some 1),(2,some 2)] []
end Go.Proofs
namespace Go.Proofs
open Go Go.TL
set_option maxRecDepth 4000
set_option maxHeartbeats 8000000
theorem zp8 {s:Src} (h:SrcOk s) (id:Int):QW s id < 0↔hasK s.rows id = false:=by
 rw [qg0]
 unfold hasK
 rw [List.any_eq_false]
 constructor
 ·intro k r hr
  have:=k r hr
  rw [qT7 (h.rows r hr)] at this
  rw [this];simp
 ·intro k r hr
  rw [qT7 (h.rows r hr)]
  simpa using k r hr
theorem zx6 {l:List (List Int)} {row:List Int} (h:AscR l) (hk:hasK l (hd row) = false):putR l row = insR l row:=by
 obtain ⟨p1,p2⟩:=zI4 (r:=row) h
 have e:pinR l row = insR l row:=by unfold pinR;rw [if_neg (by rw [hk];simp)]
 rw [e] at p1 p2
 refine YS (YR h) p1 fun x=>?_
 rw [Wr h,p2]
 constructor
 ·rintro (a | ⟨a,_⟩)
  ·exact .inr ⟨a,hk⟩
  ·exact .inl a
 ·rintro (a | ⟨a,_⟩)
  ·refine .inr ⟨a,fun e=>?_⟩
   rw [qt9.2 ⟨x,a,e⟩] at hk
   cases hk
  ·exact .inl a
theorem zx7 {l:List (List Int)} {row:List Int} (h:AscR l) (hk:hasK l (hd row) = true):putR l row = l.set (fndN l (hd row)) row:=by
 obtain ⟨f2,f3⟩:=JC h hk
 have hkey:=(zp5 f3).1
 have hp:=List.pairwise_iff_getElem.1 h
 generalize fndN l (hd row) = i at f2 f3 hkey ⊢
 have hne:∀ (j:Nat) (hj:j < l.length),j≠i→hd l[j]≠hd row:=fun j hj e1 e2=>by
  rw [← hkey] at e2
  by_cases c:j < i
  ·have:=hp j i hj f2 c;omega
  ·have:=hp i j f2 hj (by omega);omega
 have hA:AscR (l.set i row):=by
  refine List.pairwise_iff_getElem.2 fun a b ha hb hab=>?_
  rw [List.length_set] at ha hb
  have:=hp a b ha hb hab
  rw [List.getElem_set,List.getElem_set]
  split
  ·rename_i e;subst e
   rw [if_neg (by omega)]
   omega
  ·split
   ·rename_i e;subst e;omega
   ·exact this
 refine YS (YR h) hA fun x=>?_
 rw [Wr h]
 constructor
 ·rintro (a | ⟨a,b⟩)
  ·rw [a];exact List.mem_set f2 _
  ·obtain ⟨j,hj,rfl⟩:=List.getElem_of_mem a
   have hji:j≠i:=fun e=>by subst e;exact b hkey
   refine List.mem_iff_getElem.2 ⟨j,by rw [List.length_set];exact hj,?_⟩
   rw [List.getElem_set,if_neg (by omega)]
 ·intro a
  obtain ⟨j,hj,rfl⟩:=List.getElem_of_mem a
  rw [List.length_set] at hj
  rw [List.getElem_set]
  split
  ·exact .inl rfl
  ·rename_i e
   exact .inr ⟨List.getElem_mem hj,hne j hj (by omega)⟩
theorem qE2 {l:List (List Int)} {id:Int} (h:AscR l) (hk:hasK l id = true):JY l id = delR l id:=by
 obtain ⟨f2,f3⟩:=JC h hk
 have hkey:=(zp5 f3).1
 have hp:=List.pairwise_iff_getElem.1 h
 unfold delR
 generalize fndN l id = i at f2 f3 hkey ⊢
 refine YS (h.filter _) (h.sublist (List.eraseIdx_sublist ..)) fun x=>?_
 unfold JY
 rw [List.mem_filter,List.mem_eraseIdx_iff_getElem]
 constructor
 ·rintro ⟨a,b⟩
  obtain ⟨j,hj,rfl⟩:=List.getElem_of_mem a
  refine ⟨j,hj,fun e=>?_,rfl⟩
  subst e
  rw [hkey] at b
  simp at b
 ·rintro ⟨j,hj,e1,rfl⟩
  refine ⟨List.getElem_mem hj,bne_iff_ne.2 fun e2=>?_⟩
  rw [← hkey] at e2
  by_cases c:j < i
  ·have:=hp j i hj f2 c;omega
  ·have:=hp i j f2 hj (by omega);omega
theorem zx8 {l:List (List Int)} {id:Int} (hk:hasK l id = false):JY l id = l:=by
 unfold JY
 refine List.filter_eq_self.2 fun r hr=>bne_iff_ne.2 fun e=>?_
 rw [qt9.2 ⟨r,hr,e⟩] at hk
 cases hk
theorem zx9 {l:List Int} {n:Int} (h:l.Pairwise fun a b=>a < b) (hk:l.contains n = false):putI l n = insG l n:=by
 have hlt:∀ x∈l.take (insN l n),x < n:=fun x hx=>by
  obtain ⟨i,hi,rfl⟩:=List.getElem_of_mem hx
  rw [List.length_take] at hi
  rw [List.getElem_take]
  have:=List.not_of_lt_findIdx (show i < insN l n by omega)
  simpa using this
 have hge:∀ x∈l.drop (insN l n),n < x:=fun x hx=>by
  have hne:x≠n:=fun e=>by
   subst e
   rw [List.contains_iff_mem.2 (List.mem_of_mem_drop hx)] at hk
   cases hk
  obtain ⟨i,hi,rfl⟩:=List.getElem_of_mem hx
  rw [List.length_drop] at hi
  rw [List.getElem_drop] at hne ⊢
  have h1:insN l n < l.length:=by omega
  have h2:=List.findIdx_getElem (p:=fun y=>decide (n≤y)) (xs:=l) (w:=h1)
  have h3:n≤l[insN l n]:=of_decide_eq_true h2
  rcases Nat.eq_zero_or_pos i with h5 | h5
  ·subst h5
   simp only [Nat.add_zero] at hne ⊢
   omega
  ·have:=List.pairwise_iff_getElem.1 h (insN l n) (insN l n + i) h1 (by omega) (by omega)
   omega
 have ha2:=h
 rw [← List.take_append_drop (insN l n) l] at ha2
 obtain ⟨p1,p2,p3⟩:=List.pairwise_append.1 ha2
 have hA:(insG l n).Pairwise fun a b=>a < b:=List.pairwise_append.2 ⟨p1,List.pairwise_cons.2 ⟨fun x hx=>hge x hx,p2⟩,fun x hx y hy=>by
  rcases List.mem_cons.1 hy with rfl | hy
  ·exact hlt x hx
  ·exact p3 x hx y hy⟩
 refine So.srt_uniq (lt:=So.ltI) ⟨fun x y h=>?_,fun x y z h1 h2=>?_⟩ ((zx0 h).imp fun h=>decide_eq_true h) (hA.imp fun h=>decide_eq_true h) fun x=>?_
 ·simp only [So.ltI,decide_eq_true_eq] at h
  exact decide_eq_false (by omega)
 ·simp only [So.ltI,decide_eq_false_iff_not] at h1 h2 ⊢
  omega
 ·rw [zw9]
  have:=List.mem_append (s:=l.take (insN l n)) (t:=l.drop (insN l n)) (a:=x)
  rw [List.take_append_drop] at this
  rw [List.mem_append,List.mem_cons,this]
  constructor
  ·rintro (a | a | a)
   ·exact .inr (.inl a)
   ·exact .inl a
   ·exact .inr (.inr a)
  ·rintro (a | a | a)
   ·exact .inr (.inl a)
   ·exact .inl a
   ·exact .inr (.inr a)
theorem qE3 {s:Src} {d:Edt} (h:SrcOk s) (hv:s.ver≠300):chgE s d = jw s d:=by
 have hF:=fun id=>zp8 h id
 have hF2:∀ id,0≤QW s id↔hasK s.rows id = true:=fun id=>by
  have:=hF id
  cases e:hasK s.rows id with
  | true=>rw [e] at this;simp only [Bool.true_eq_false,iff_false] at this;simp;omega
  | false=>rw [e] at this;simp at this;simp;omega
 have h9:rowE s.sch d.row≠0→rowE s.sch d.row = 9:=fun k=>by
  unfold rowE at k ⊢
  rw [if_neg (by rw [h.sch];simp)] at k ⊢
  split
  ·rfl
  ·rename_i q
   rw [if_neg q] at k
   split
   ·rfl
   ·rename_i q2;rw [if_neg q2] at k;exact absurd rfl k
 unfold chgE jw putE
 rw [if_neg (show ¬ (srcB s = false∨s.ver = 300) by rw [WX.2 h];simp [hv])]
 by_cases k12:d.kind = 1∨d.kind = 2
 ·rw [if_pos k12,if_pos k12]
  by_cases k9:rowE s.sch d.row = 0
  ·simp only [k9,ne_eq,not_true_eq_false,if_false]
   cases hg:s.gone.contains (hd d.row) with
   | true=>simp only [if_true]
   | false=>
     simp only [Bool.false_eq_true,if_false]
     have f1:=hF (hd d.row)
     have f2:=hF2 (hd d.row)
     rcases k12 with k | k
     ·have e1:(d.kind == 2) = false:=by rw [k];rfl
      have e2:d.kind≠2:=by omega
      simp only [e1,eq_false e2,eq_true k,Bool.false_eq_true,false_and,true_and,if_false]
      cases hk:hasK s.rows (hd d.row) with
      | true=>
        rw [hk] at f2
        rw [if_pos rfl,if_pos (f2.2 rfl)]
      | false=>
        rw [hk] at f2
        rw [if_neg (by simp),if_neg (show ¬ 0≤QW s (hd d.row) from fun q=>by have:=f2.1 q;cases this)]
     ·have e1:(d.kind == 2) = true:=by rw [k];rfl
      have e2:d.kind≠1:=by omega
      simp only [e1,eq_false e2,eq_true k,true_and,false_and,if_false,if_true]
      cases hk:hasK s.rows (hd d.row) with
      | true=>
        rw [hk] at f1
        rw [if_neg (by simp),if_neg (show ¬ QW s (hd d.row) < 0 from fun q=>by have:=f1.1 q;cases this)]
      | false=>
        rw [hk] at f1
        rw [if_pos rfl,if_pos (f1.2 rfl)]
  ·rw [if_pos k9,if_pos k9,h9 k9]
 ·rw [if_neg k12,if_neg k12]
  by_cases k3:d.kind = 3
  ·rw [if_pos k3,if_pos k3]
   have:=hF d.id
   cases hk:hasK s.rows d.id with
   | true=>rw [hk] at this;rw [if_neg (by simp),if_neg (fun q=>by have:=this.1 q;cases this)]
   | false=>rw [hk] at this;rw [if_pos rfl,if_pos (this.2 rfl)]
  ·rw [if_neg k3,if_neg k3]
end Go.Proofs
namespace Go.Proofs
open Go Go.TL
set_option maxRecDepth 4000
set_option maxHeartbeats 8000000
def nxS (s:Src):Src:=⟨s.sch,s.rows,s.gone,s.ver + 1⟩
theorem zO5 {s:Src} (h:SrcOk s) (hv:s.ver≠300):SrcOk (nxS s):=⟨h.sch,h.nr,h.ng,by have:=h.ver;unfold nxS;dsimp only;omega,h.rows,h.asc,h.gone,h.gasc⟩
theorem put0 {s:Src} {r:List Int} {rep:Bool} (h:putE s r rep = 0):hasK s.rows (hd r) = rep∧rowE s.sch r = 0∧s.gone.contains (hd r) = false:=by
 unfold putE at h
 split at h
 ·cases h
 ·rename_i q1
  split at h
  ·cases h
  ·rename_i q2
   have e1:rowE s.sch r = 0:=Classical.byContradiction q1
   have e2:s.gone.contains (hd r) = false:=by simpa using q2
   split at h
   ·cases h
   ·rename_i q3
    split at h
    ·rename_i q4
     rw [q4] at q3 ⊢
     exact ⟨by simpa using q3,e1,e2⟩
    ·rename_i q4
     split at h
     ·cases h
     ·rename_i q5
      have e3:rep = false:=by simpa using q4
      rw [e3]
      exact ⟨by simpa using q5,e1,e2⟩
theorem QI (s:Src) (d:Edt) (hs:qJ1 s) (hr:d.row.length < 4611686018427387904) (hi:idOk d.id):Spc Tryz.prog jN [srcT s,edtT d] [] (.tup [srcT (jm s d),vI (jw s d)]) []:=by
 have hV:=Ki s (by have:=hs.1.2.1;omega) (by have:=hs.1.1;omega) hs.2
 refine qd qd2 mixm (by simp) fun e _ hst=>qj ?_
 unfold yK
 refine sW ?_
 refine C1.im hV (by rfl) (by rfl) ?_
 simp only [tZ,↓un_u,simprocAttr,tD,beq_iff_eq,beq_eq_false_iff_ne,Bool.not_eq_true',Bool.not_eq_false']
 refine ⟨fun h=>?_,fun h=>?_⟩
 ·have hE:jw s d = 13:=by rw [jw,if_pos h]
  have hA:jm s d = src0:=by rw [jm,if_pos (by rw [hE];decide)]
  rw [hE,hA]
  exact .oA [] []
 have hok:=WX.1 h.1
 have hv:s.ver≠300:=h.2
 have hok2:=zO5 hok hv
 have hEq:=qE3 (d:=d) hok hv
 have hver:=hok.ver
 have hnr:=hok.nr
 have hng:=hok.ng
 have hw:IntKind.i64.wrap (s.ver + 1) = s.ver + 1:=IntWalk.i64_in _ (by omega)
 have hrw:=JD s.rows (by omega) (fun r hr=>by have:=(QH (hok.rows r hr)).2.1;have:=(jb hok.sch).nc;omega)
 have hcl:=KE s.gone (by omega)
 refine C1.im (yc s.sch (jb hok.sch)) (by rfl) (by rfl) ?_
 refine sW ?_
 refine C1.fresh 16404 hrw (by rfl) (by apply qt;intro _;exact ⟨rfl,rfl⟩) (by rfl) ?_
 refine sW ?_
 refine C1.fresh 16416 hcl (by rfl) (by apply qt;intro _;exact ⟨rfl,rfl⟩) (by rfl) ?_
 simp only [tZ,↓un_u,simprocAttr,hw]
 refine ⟨by kernel_rfl,?_⟩
 have hC:=qg4 (nxS s) hok2 d hr hi
 have hE2:chgE (nxS s) d = jw s d:=hEq
 rw [hE2] at hC
 by_cases hE:jw s d = 0
 ·have hS:jm s d = ⟨s.sch,Qi s d,if d.kind = 4 then putI s.gone d.id else s.gone,s.ver + 1⟩:=by rw [jm,if_neg (by rw [hE];simp)]
  have hcE:=hEq.trans hE
  unfold chgE at hcE
  rw [hE] at hC ⊢
  by_cases k1:d.kind = 1
  ·have hC:=hC (qU1 (nxS s) d.row) (fun e=>absurd rfl e) (fun _ _=>rfl) (fun _ k=>by omega) (fun _ k=>by omega) (fun _ k=>by omega)
   rw [if_pos (.inl k1)] at hcE
   have hk:=(put0 hcE).1
   rw [k1] at hk
   rw [hS,Qi,if_pos (.inl k1),if_neg (by omega),zx6 hok.asc hk]
   have hfl:=zp2 s.rows (hd d.row)
   refine C1.of [(0,some 16436),(1,some 16404),(2,some 16416)] [(16436,some 0),(16416,some 2),(3,some 3)] [] ([(16436,ownO s.sch 3 (s.rows.length + 1) 16416 s.gone.length (s.ver + 1)),(16404,.dead),(16416,.arr 1 (s.gone.map vI) false),(3,.arr 1 ((insR s.rows d.row).map vIs) false)]) hC ?_ (by rfl) ?_ (by rfl) (by rfl) ?_ (by rfl) (by rfl) (wA (by rfl)) (.inl (by rfl)) ?_
   ·all_goals (try exact clA)
   ·all_goals (try exact clA)
   ·simp only [wrOk,wrO,TL.get,ltO1]
    all_goals (try exact clA)
   refine sW ?_
   have hil:(insR s.rows d.row).length = s.rows.length + 1:=by rw [List.length_append,List.length_cons,List.length_take,List.length_drop];omega
   refine ⟨by rw [List.length_take,List.length_drop];omega,?_⟩
   generalize insR s.rows d.row = R at hil ⊢
   exact .oA [] [3,16416]
  by_cases k2:d.kind = 2
  ·have hC:=hC (qU0 (nxS s) d.row) (fun e=>absurd rfl e) (fun _ k=>by omega) (fun _ k=>rfl) (fun _ k=>by omega) (fun _ k=>by omega)
   rw [if_pos (.inr k2)] at hcE
   have hk:=(put0 hcE).1
   rw [k2] at hk
   rw [hS,Qi,if_pos (.inr k2),if_neg (by omega),zx7 hok.asc hk]
   refine C1.of [(0,some 16436),(1,some 16404),(2,some 16416)] [(16436,some 0),(16404,some 1),(16416,some 2)] [] ([(16436,ownO s.sch 16404 s.rows.length 16416 s.gone.length (s.ver + 1)),(16404,.arr 1 ((s.rows.set (fndN s.rows (hd d.row)) d.row).map vIs) false),(16416,.arr 1 (s.gone.map vI) false)]) hC ?_ (by rfl) ?_ (by rfl) (by rfl) ?_ (by rfl) (by rfl) (wA (by rfl)) (.inl (by rfl)) ?_
   ·all_goals (try exact clA)
   ·all_goals (try exact clA)
   ·simp only [wrOk,wrO,TL.get,ltO1]
    all_goals (try exact clA)
   refine sW ?_
   have hil:(s.rows.set (fndN s.rows (hd d.row)) d.row).length = s.rows.length:=List.length_set
   generalize s.rows.set (fndN s.rows (hd d.row)) d.row = R at hil ⊢
   refine ⟨by omega,?_⟩
   exact .oA [] [16404,16416]
  rw [if_neg (by omega)] at hcE
  by_cases k3:d.kind = 3
  ·have hC:=hC (zE2 (nxS s) d.id) (fun e=>absurd rfl e) (fun _ k=>by omega) (fun _ k=>by omega) (fun _ k=>rfl) (fun _ k=>by omega)
   rw [if_pos k3] at hcE
   have hk:hasK s.rows d.id = true:=by
    cases e:hasK s.rows d.id with
    | true=>rfl
    | false=>rw [if_pos e] at hcE;cases hcE
   obtain ⟨f2,_⟩:=JC hok.asc hk
   rw [hS,Qi,if_neg (by omega),if_neg (by omega),qE2 hok.asc hk]
   refine C1.of [(0,some 16436),(1,some 16404),(2,some 16416)] [(16436,some 0),(16416,some 2),(3,some 3)] [] ([(16436,ownO s.sch 3 (s.rows.length - 1) 16416 s.gone.length (s.ver + 1)),(16404,.dead),(16416,.arr 1 (s.gone.map vI) false),(3,.arr 1 ((delR s.rows d.id).map vIs) false)]) hC ?_ (by rfl) ?_ (by rfl) (by rfl) ?_ (by rfl) (by rfl) (wA (by rfl)) (.inl (by rfl)) ?_
   ·all_goals (try exact clA)
   ·all_goals (try exact clA)
   ·simp only [wrOk,wrO,TL.get,ltO1]
    all_goals (try exact clA)
   refine sW ?_
   have hil:(delR s.rows d.id).length = s.rows.length - 1:=List.length_eraseIdx_of_lt f2
   generalize delR s.rows d.id = R at hil ⊢
   refine ⟨by omega,?_⟩
   exact .oA [] [3,16416]
  rw [if_neg k3] at hcE
  by_cases k4:d.kind = 4
  ·rw [if_pos k4] at hcE
   have hg:s.gone.contains d.id = false:=by
    cases e:s.gone.contains d.id with
    | false=>rfl
    | true=>
      rw [if_pos e] at hcE
      split at hcE <;> cases hcE
   have hil2:insN s.gone d.id≤s.gone.length:=List.findIdx_le_length
   rw [hS,Qi,if_neg (by omega),if_pos k4,zx9 hok.gasc hg]
   have hgl:(insG s.gone d.id).length = s.gone.length + 1:=by rw [List.length_append,List.length_cons,List.length_take,List.length_drop];omega
   cases hk:hasK s.rows d.id with
   | true=>
     have hC:=hC (zE3 (nxS s) d.id) (fun e=>absurd rfl e) (fun _ k=>by omega) (fun _ k=>by omega) (fun _ k=>by omega) (fun _ k=>(if_pos hk).symm)
     obtain ⟨f2,_⟩:=JC hok.asc hk
     rw [qE2 hok.asc hk]
     refine C1.of [(0,some 16436),(1,some 16404),(2,some 16416)] [(16436,some 0),(3,some 3),(4,some 4)] [] ([(16436,ownO s.sch 3 (s.rows.length - 1) 4 (s.gone.length + 1) (s.ver + 1)),(16404,.dead),(16416,.dead),(3,.arr 1 ((delR s.rows d.id).map vIs) false),(4,.arr 1 ((insG s.gone d.id).map vI) false)]) hC ?_ (by rfl) ?_ (by rfl) (by rfl) ?_ (by rfl) (by rfl) (wA (by rfl)) (.inl (by rfl)) ?_
     ·all_goals (try exact clA)
     ·all_goals (try exact clA)
     ·simp only [wrOk,wrO,TL.get,ltO1]
      all_goals (try exact clA)
     refine sW ?_
     have hil:(delR s.rows d.id).length = s.rows.length - 1:=List.length_eraseIdx_of_lt f2
     generalize delR s.rows d.id = R at hil ⊢
     refine ⟨⟨by omega,by rw [List.length_take,List.length_drop];omega⟩,?_⟩
     generalize insG s.gone d.id = G at hgl ⊢
     exact .oA [] [3,4]
   | false=>
     have hC:=hC (zO4 (nxS s) d.id) (fun e=>absurd rfl e) (fun _ k=>by omega) (fun _ k=>by omega) (fun _ k=>by omega) (fun _ k=>(if_neg (by rw [show hasK (nxS s).rows d.id = false from hk];simp)).symm)
     rw [zx8 hk]
     refine C1.of [(0,some 16436),(1,some 16404),(2,some 16416)] [(16436,some 0),(16404,some 1),(4,some 4)] [] ([(16436,ownO s.sch 16404 s.rows.length 4 (s.gone.length + 1) (s.ver + 1)),(16404,.arr 1 (s.rows.map vIs) false),(16416,.dead),(4,.arr 1 ((insG s.gone d.id).map vI) false)]) hC ?_ (by rfl) ?_ (by rfl) (by rfl) ?_ (by rfl) (by rfl) (wA (by rfl)) (.inl (by rfl)) ?_
     ·all_goals (try exact clA)
     ·all_goals (try exact clA)
     ·simp only [wrOk,wrO,TL.get,ltO1]
      all_goals (try exact clA)
     refine sW ?_
     refine ⟨by rw [List.length_take,List.length_drop];omega,?_⟩
     generalize insG s.gone d.id = G at hgl ⊢
     exact .oA [] [16404,4]
  ·rw [if_neg k4] at hcE
   cases hcE
 ·have hA:jm s d = src0:=by rw [jm,if_pos hE]
  rw [hA]
  have hC:=hC (qJ3 (nxS s)) (fun _=>rfl) (fun e=>absurd e hE) (fun e=>absurd e hE) (fun e=>absurd e hE) (fun e=>absurd e hE)
  refine C1.of [(0,some 16436),(1,some 16404),(2,some 16416)] [(16436,some 0),(16404,some 1),(16416,some 2)] [] ([(16436,ownO s.sch 16404 s.rows.length 16416 s.gone.length (s.ver + 1)),(16404,.arr 1 (s.rows.map vIs) false),(16416,.arr 1 (s.gone.map vI) false)]) hC ?_ (by rfl) ?_ (by rfl) (by rfl) ?_ (by rfl) (by rfl) (wA (by rfl)) (.inl (by rfl)) ?_
  ·all_goals (try exact clA)
  ·all_goals (try exact clA)
  ·simp only [wrOk,wrO,TL.get,ltO1]
   all_goals (try exact clA)
  simp only [tZ,↓un_u,simprocAttr,bne_iff_ne,bne_eq_false_iff_eq]
  refine ⟨fun _=>?_,fun e=>absurd e hE⟩
  exact .oA [] []
end Go.Proofs
namespace Go.Proofs
open Go Go.TL
set_option maxRecDepth 4000
set_option maxHeartbeats 8000000
theorem SrcOk.smy {s:Src} (h:SrcOk s):qJ1 s:=⟨(jb h.sch).sm,fun r hr=>by
 have h1:=(QH (h.rows r hr)).2.1
 have h2:=(jb h.sch).nc
 omega⟩
theorem qg5 (r:List Int) (k:Int):Spc Tryz.prog kN [vIs r,.ip [vI k]] [] (vB (atR k r)) []:=by
 rcases Nat.eq_zero_or_pos r.length with h0 | h0
 ·have hr:r = []:=List.length_eq_zero_iff.1 h0
  subst hr
  rw [show atR k [] = false from rfl]
  refine qd ZI mixm (by simp) fun e _ hst=>qj ?_
  unfold jV
  simp only [tZ,↓un_u,simprocAttr,qx5,qJ2,WE,not_false_eq_true,true_and]
  refine ⟨by kernel_rfl,?_⟩
  exact .oA [] []
 ·have hg:=zu h0
  have e0:decide ((r.length:Int) > 0) = true:=decide_eq_true (by omega)
  have:atR k r = (hd r == k):=by rw [atR,decide_eq_true h0,Bool.true_and]
  rw [this]
  refine qd ZI mixm (by simp) fun e _ hst=>qj ?_
  unfold jV
  simp only [tZ,↓un_u,simprocAttr,hg,e0]
  refine ⟨by omega,by kernel_rfl,?_⟩
  exact .oA [] []
theorem Wv (s:Src) (k:Int) (hl:s.rows.length < 4611686018427387904):Spc Tryz.prog yj [srcT s,vI k] [] (vI (QW s k)) []:=by
 have hI:=ZG (atR k) kN [.ip [vI k]] rfl s.rows (fun r _=>qg5 r k) hl
 rw [show TL.idxI (atR k) s.rows = QW s k from rfl] at hI
 refine qd qh7 mixm (by simp) fun e _ hst=>qj ?_
 unfold Qt
 refine sW ?_
 refine C1.lend [4100] hI ?_ (by rfl) (by rfl) ?_
 ·all_goals (try simp only [tL,simprocAttr,List.map_append,List.map_cons,List.map_nil,List.cons_append,List.nil_append])
  all_goals (try (repeat' (first | exact qT | (apply zh;intro _;exact ⟨rfl,rfl⟩) | (apply qt;intro _;exact ⟨rfl,rfl⟩) | with_reducible apply qS | with_reducible refine qW ⟨rfl,rfl⟩ ?_ | exact zi | with_reducible apply qJ | with_reducible refine qD ⟨rfl,rfl,?_⟩ ?_ | with_reducible apply And.intro | exact qK rfl | exact qK (by assumption) | (refine ⟨⟨?_,rfl,?_,rfl,?_⟩,trivial⟩ <;> first | (simp;done) | (apply qt;intro _;exact ⟨rfl,rfl⟩)) | trivial | rfl | (rw [qh (by omega)]) | omega)))
  simp only [ltP]
  exact ⟨rfl,by decide,rfl,qW ⟨rfl,rfl⟩ zi⟩
 refine sW ?_
 exact .oA [] []
end Go.Proofs
namespace Go.Proofs
open Go Go.TL
set_option maxRecDepth 4000
set_option maxHeartbeats 8000000
open So
theorem zp9 {xs:List (List Int)} {i:Nat} (h:i < xs.length):(xs.map vIs).getD i .junk = vIs (gd xs i):=by rw [qn6 h];exact qe h
theorem zI5 (x y:List Int):repl (vIs x) 0 (vIs y) = vIs y:=rfl
theorem zI6 (x:List Int):(vIs x).cells.getD 0 .junk = vIs x:=rfl
theorem zO6 (xs:List (List Int)) (i:Nat) (v:List Int):(xs.map vIs).set i (vIs v) = (xs.set i v).map vIs:=List.map_set.symm
theorem zO7 (xs:List (List Int)) (i j:Nat):((xs.set i (gd xs j)).set j (gd xs i)) = swp xs i j:=rfl
theorem gd_mem {xs:List (List Int)} {i:Nat} (h:i < xs.length):gd xs i∈xs:=by rw [qn6 h];exact List.getElem_mem h
section
variable (cv:List Int→List Int→Int) (P:List Int→Prop) (f:FuncId) (hf:∀ x y,P x→P y→Spc Tryz.prog f [vIs x,vIs y] [] (vI (cv x y)) [])
abbrev ltV (x y:List Int):Bool:=decide (cv x y < 0)
include hf in
theorem kE (xs:List (List Int)) (hP:∀ x∈xs,P x) (a b:Nat) (hab:a≤b) (hb:b≤xs.length) (hl:xs.length < 4611686018427387904) :
 Spc Tryz.prog qZ [.asl 0 xs.length,vI a,vI b,.clo f []] [(0,.arr 1 (xs.map vIs) false)] (.tup []) [(0,.arr 1 ((insS (ltV cv) xs a b).map vIs) false)]:=by
 have hw:=qh (i:=a) (by omega)
 refine qd ko mixm (by simp) fun e _ hst=>qj ?_
 unfold qY
 simp only [tZ,↓un_u,simprocAttr,hw]
 refine qy mixm (α:=List (List Int)×Nat) [8] (fun q=>q.1.length = xs.length∧a + 1≤q.2∧(q.2≤b∨q.2 = a + 1)∧insF (ltV cv) a (b - q.2) q.2 q.1 = insS (ltV cv) xs a b∧∀ x∈q.1,P x) (fun q=>[(8,vI q.2)]) (fun q=>[(0,.arr 1 (q.1.map vIs) false)]) (fun q=>b - q.2) (xs,a + 1) ⟨rfl,Nat.le_refl _,.inr rfl,rfl,hP⟩ ?_ fun q hq=>?_
 ·exact .oA [(0,some 0)] []
 obtain ⟨ys,i⟩:=q
 obtain ⟨h1,h2,h3,h4,hPy⟩:=hq
 dsimp only at h1 h2 h3 h4 hPy
 simp only [tZ,↓un_u,simprocAttr,decide_eq_true_eq,decide_eq_false_iff_not]
 refine ⟨fun h5=>?_,fun h5=>?_⟩
 ·have hi2:i < b:=by omega
  rw [show b - i = (b - (i + 1)) + 1 by omega,insF] at h4
  refine qy mixm (α:=List (List Int)×Nat) [9] (fun q=>q.1.length = xs.length∧a≤q.2∧q.2≤i∧insJ (ltV cv) a q.2 q.1 = insJ (ltV cv) a i ys∧∀ x∈q.1,P x) (fun q=>[(9,vI q.2)]) (fun q=>[(0,.arr 1 (q.1.map vIs) false)]) (fun q=>q.2) (ys,i) ⟨h1,by omega,Nat.le_refl _,rfl,hPy⟩ ?_ fun q hq=>?_
  ·exact .oA [(0,some 0)] []
  obtain ⟨zs,j⟩:=q
  obtain ⟨g1,g2,g3,g4,hPz⟩:=hq
  dsimp only at g1 g2 g3 g4 hPz
  by_cases hj:a < j
  ·obtain ⟨j,rfl⟩:∃ k,j = k + 1:=⟨j - 1,by omega⟩
   have hwj:IntKind.i64.wrap (((j + 1:Nat):Int) - 1) = (j:Int):=by rw [IntWalk.i64_in _ (by omega)];omega
   have hd:decide (((j + 1:Nat):Int) > a) = true:=by simp;omega
   have hc:=hf (gd zs (j + 1)) (gd zs j) (hPz _ (gd_mem (by omega))) (hPz _ (gd_mem (by omega)))
   simp only [tZ,↓un_u,simprocAttr,hwj,hd,Int.toNat_natCast,zp9 (show j < zs.length by omega),zp9 (show j + 1 < zs.length by omega)]
   refine ⟨⟨g1,by omega,by omega⟩,⟨g1,by omega⟩,⟨g1,by omega,by omega⟩,⟨g1,by omega⟩,?_⟩
   refine C2.one (by trivial) (C1.im hc (by rfl) (by rfl) ?_)
   have hsl:(zs.set (j + 1) (gd zs j)).length = zs.length:=List.length_set
   simp only [tZ,↓un_u,simprocAttr,hwj,Int.toNat_natCast,zp9 (show j < zs.length by omega),zp9 (show j + 1 < zs.length by omega),zI5,zI6,zO6,zp9 (show j < (zs.set (j + 1) (gd zs j)).length by omega),zO7]
   have hin:insJ (ltV cv) a (j + 1) zs = if a < j + 1∧ltV cv (gd zs (j + 1)) (gd zs j) = true then insJ (ltV cv) a j (swp zs (j + 1) j) else zs:=rfl
   refine ⟨by kernel_rfl,fun h6=>?_,fun h6=>?_⟩
   ·refine ⟨⟨g1,by omega,by omega⟩,⟨g1,by omega⟩,⟨g1,by omega,by omega⟩,⟨g1,by omega⟩,⟨g1,by omega,by omega⟩,⟨g1,by omega⟩,⟨by omega,by omega,by omega⟩,⟨by omega,by omega⟩,by kernel_rfl,(swp zs (j + 1) j,j),⟨by dsimp only;rw [qq2];exact g1,by dsimp only;omega,by dsimp only;omega,?_,fun x hx=>hPz x ((qS2 (by omega) (by omega)).mem_iff.1 hx)⟩,by dsimp only;omega,?_⟩
    ·rw [← g4,hin,if_pos ⟨hj,h6⟩]
    ·exact .oA [(0,some 0)] []
   ·rw [hin,if_neg (fun e=>by have e2:=e.2;unfold ltV at e2;rw [h6] at e2;cases e2)] at g4
    have hwi:=qh (i:=i) (by omega)
    refine ⟨(zs,i + 1),⟨g1,by dsimp only;omega,by dsimp only;omega,?_,hPz⟩,by dsimp only;omega,?_⟩
    ·dsimp only;rw [g4];exact h4
    ·rw [hwi]
     exact .oA [(0,some 0)] []
  ·have hd:decide ((j:Int) > a) = false:=by simp;omega
   have hwi:=qh (i:=i) (by omega)
   have hin:insJ (ltV cv) a j zs = zs:=by
    cases j with
    | zero=>rfl
    | succ j=>unfold insJ;rw [if_neg (fun e=>hj e.1)]
   rw [hin] at g4
   simp only [tZ,↓un_u,simprocAttr,hd,hwi]
   refine C2.no (fun h=>h) ?_
   simp only [tZ,↓un_u,simprocAttr,hwi]
   refine ⟨by kernel_rfl,(zs,i + 1),⟨g1,by dsimp only;omega,by dsimp only;omega,?_,hPz⟩,by dsimp only;omega,?_⟩
   ·dsimp only;rw [g4];exact h4
   ·exact .oA [(0,some 0)] []
 ·rw [show b - i = 0 by omega,insF] at h4
  rw [← h4]
  exact .oA [(0,some 0)] []
theorem zE4 {st:Sto} {B:List Nat} (n:Nat) (ts:List T) (h:imAL ts = true):ltAs st [(0,some 0)] B (.asl 0 n :: ts) (.asl 0 n :: ts):=⟨by simp [ltA,ltC,ltC0,TL.get],ZZ h⟩
include hf in
theorem KI (xs:List (List Int)) (hP:∀ x∈xs,P x) (lim:Nat) (hl:xs.length≤12) :
 Spc Tryz.prog qO [.asl 0 xs.length,vI 0,vI xs.length,vI lim,.clo f []] [(0,.arr 1 (xs.map vIs) false)] (.tup []) [(0,.arr 1 ((insS (ltV cv) xs 0 xs.length).map vIs) false)]:=by
 have hw1:IntKind.i64.wrap ((xs.length:Int) - 0) = (xs.length:Int):=by rw [IntWalk.i64_in _ (by omega)];omega
 have hin:=kE cv P f hf xs hP 0 xs.length (by omega) (by omega) (by omega)
 refine we [11,16,18] wR mixm (by simp) fun e _ hst=>qj ?_
 unfold zn
 simp only [QM,List.contains_cons,List.contains_nil,Nat.reduceBEq,Bool.or_false,Bool.or_true,Bool.true_or,Bool.false_or,cond_true,cond_false]
 refine sW ?_
 refine qy mixm (α:=Unit) [1,2,3,10,11] (fun _=>True) (fun _=>[(1,vI 0),(2,vI xs.length),(3,vI lim),(10,vB true),(11,vB true)]) (fun _=>[(0,.arr 1 (xs.map vIs) false)]) (fun _=>0) () trivial ?_ fun q hq=>?_
 ·exact .oA [(0,some 0)] []
 simp only [tZ,↓un_u,simprocAttr,decide_eq_true_eq,decide_eq_false_iff_not,hw1]
 refine ⟨fun h8=>?_,fun h8=>absurd (show (xs.length:Int)≤12 by omega) h8⟩
 refine C1.upd 0 1 _ _ hin (by rfl) (by apply qt;intro _;exact ⟨rfl,rfl⟩) (by apply qt;intro _;exact ⟨rfl,rfl⟩) (zE4 _ _ (by rfl)) (by rfl) ?_
 refine sW ?_
 exact .oA [(0,some 0)] []
include hf in
theorem ZP (xs:List (List Int)) (hP:∀ x∈xs,P x) (hl:xs.length≤12):∃ ys,(ys.Perm xs∧(SWOrd (ltV cv)→Srt (ltV cv) ys 0 xs.length))∧
 Spc Tryz.prog jd [.asl 0 xs.length,.clo f []] [(0,.arr 1 (xs.map vIs) false)] (.tup []) [(0,.arr 1 (ys.map vIs) false)]:=by
 obtain ⟨lim,hlim,hs⟩:=qg3 xs.length (by omega)
 refine ⟨insS (ltV cv) xs 0 xs.length,⟨(zH2 (ltV cv) xs (Nat.zero_le _) (Nat.le_refl _)).perm,fun ho=>zv4 ho xs (Nat.zero_le _) (Nat.le_refl _)⟩,?_⟩
 have hu:IntKind.u64.wrap (xs.length:Int) = (xs.length:Int):=by rw [IntKind.wrap_u64];omega
 refine qd Zt mixm (by simp) fun e _ hst=>qj ?_
 unfold zY
 simp only [tZ,↓un_u,simprocAttr,hu]
 refine C1.im hs (by rfl) (by rfl) ?_
 refine sW ?_
 refine C1.upd 0 1 _ _ (KI cv P f hf xs hP lim hl) (by rfl) (by apply qt;intro _;exact ⟨rfl,rfl⟩) (by apply qt;intro _;exact ⟨rfl,rfl⟩) (zE4 _ _ (by rfl)) (by rfl) ?_
 refine sW ?_
 exact .oA [(0,some 0)] []
end
end Go.Proofs
