/- A part of the proof: trees of Go values, short forms, contracts. -/
import Derived.WalkKit
import Derived.Still
import Derived.MapKept
import GoSem.Builtin.Cap
import Derived.Laws.Externs
import GoSem.Extern.SlicesOverlaps
import Derived.Carry
import Derived.ProofKit
import Derived.OpenShut
import Derived.HandedShaped
import Derived.Lay
import Derived.LaidLaws
import Derived.MakeChecks
import Derived.SevenTiedAt
import Derived.Test.YtjckmmphmhafjaaGreatDoorChecked
import Derived.Test.YtjckmmphmhafjaaGreatDoorK20
set_option linter.unusedSimpArgs false
set_option linter.unusedVariables false
namespace Go.Proofs
open Go Go.TL
set_option maxRecDepth 4000
set_option maxHeartbeats 8000000
open So
theorem c_slices_Insert_Lint (l:List (List Int)) (x:(List Int)) (i:Nat) (hi:i≤l.length) (hl:l.length < 1000000000000) :
 Spc Tryz.prog F_slices_Insert_Lint [.vw 0 l.length 0 l.length,vI i,.sl 1 [vIs x]] [(0,.arr 1 (l.map vIs) false)] (.asl 1 (l.length + 1)) [(0,.dead),(1,.arr 1 ((l.take i ++ x :: l.drop i).map vIs) false)]:=by
 refine spec_of_cut [7,8,10] fn_slices_Insert_Lint mixm (by simp) fun e _ hst=>W_start ?_
 unfold ir_slices_Insert_Lint
 simp only [cutAt,List.contains_cons,List.contains_nil,Nat.reduceBEq,Bool.or_false,Bool.or_true,Bool.true_or,Bool.false_or,cond_true,cond_false]
 simp only [tl,tl2,tl4,↓un_u,isCallR,entX,argFr,ret,retI,retB,intT,unT,endR,ressR,resR,tupT,bslR,boxR,lenAll,↓reduceIte,Nat.reduceEqDiff,Nat.reduceAdd,Nat.reduceMul,Nat.reduceLT,Nat.reduceLeDiff,reduceCtorEq,Int.reduceLE,Int.reduceLT,ne_eq,Int.reduceEq,not_false_eq_true,decide_true,decide_false,Int.reduceToNat,tl3,Int.reduceBNe,Int.reduceBEq,rmK,rm1,not_true_eq_false,List.drop_zero,List.take_of_length_le (show (l.map vIs).length≤l.length by simp),show (((1:Nat):Int) == 0) = false from rfl]
 have e1:(i:Int).toNat = i:=Int.toNat_natCast _
 refine ⟨by omega,fun h=>?_,fun h=>?_⟩
 ·have h2:i = l.length:=by have:=beq_iff_eq.1 h;omega
  subst h2
  refine W_le _ _ (Le.cut 0 5 l.length (by rfl) (by rfl) (by simp)) ?_
  simp only [cutFr,cutSt,cut2,cut1,cut0]
  simp only [tl,tl2,tl4,↓un_u,isCallR,entX,argFr,ret,retI,retB,intT,unT,endR,ressR,resR,tupT,bslR,boxR,lenAll,↓reduceIte,Nat.reduceEqDiff,Nat.reduceAdd,Nat.reduceMul,Nat.reduceLT,Nat.reduceLeDiff,reduceCtorEq,Int.reduceLE,Int.reduceLT,ne_eq,Int.reduceEq,not_false_eq_true,decide_true,decide_false,Int.reduceToNat,tl3,Int.reduceBNe,Int.reduceBEq,rmK,rm1,not_true_eq_false,List.length_map,List.take_of_length_le (show (l.map vIs).length≤l.length by simp)]
  refine ⟨by omega,?_⟩
  refine .of [(0,some 0),(1,some 5)] [] rfl (by first | rfl | (rw [hst];rfl)) ?_ ?_
  all_goals (try simp only [ltSto,ltO2,ltO1,ltAs,ltA,ltC,ltC0,ltC0s,ltCs,ltT,ltFr,ltS,wrOk,wrO,TL.get,hasFr,↓reduceIte,Nat.reduceEqDiff,reduceCtorEq,Option.getD_some,Option.isSome_some,List.length_map,List.length_append,List.length_cons,List.length_nil,List.append_nil,List.mem_singleton,List.mem_cons,List.not_mem_nil,and_true,true_and,and_self,imp_self,forall_const,false_implies,implies_true,true_implies,or_false,Bool.false_eq_true,Bool.true_eq_false,ImXs_nil,true_or,or_true,false_or,false_and,and_false,rmK,rm1,List.map_append,List.map_cons,List.map_nil,List.cons_append,List.nil_append,List.take_length,List.drop_length])
  all_goals (try (repeat' (first | exact ltXs_nil | (apply ltXs_map;intro _;exact ⟨rfl,rfl⟩) | (apply imXs_map;intro _;exact ⟨rfl,rfl⟩) | with_reducible apply imXs_append | with_reducible refine imXs_cons ⟨rfl,rfl⟩ ?_ | exact imXs_nil | with_reducible apply ltXs_append | with_reducible refine ltXs_cons ⟨rfl,rfl,?_⟩ ?_ | with_reducible apply And.intro | exact ltCs_im rfl | exact ltCs_im (by assumption) | (refine ⟨⟨?_,rfl,?_,rfl,?_⟩,trivial⟩ <;> first | (simp;done) | (apply imXs_map;intro _;exact ⟨rfl,rfl⟩)) | trivial | rfl | (rw [i64_succ (by omega)]) | omega)))
 have h2:i < l.length:=by have:=beq_eq_false_iff_ne.1 h;omega
 refine W_cap 0 (by rfl) (by rfl) fun c hc1 hc2=>?_
 simp only [capFr,capSt,capVw]
 rw [List.length_map] at hc1
 have hw:IntKind.i64.wrap ((l.length:Int) + ((1:Nat):Int)) = ((l.length + 1:Nat):Int):=by rw [IntWalk.i64_in _ (by omega)];omega
 have hw2:IntKind.i64.wrap (((l.length + 1:Nat):Int) - (i:Int)) = ((l.length + 1 - i:Nat):Int):=by rw [IntWalk.i64_in _ (by omega)];omega
 have hw3:IntKind.i64.wrap ((i:Int) + ((1:Nat):Int)) = ((i + 1:Nat):Int):=by rw [IntWalk.i64_in _ (by omega)];omega
 have e2:((l.length + 1:Nat):Int).toNat = l.length + 1:=Int.toNat_natCast _
 have e3:((i + 1:Nat):Int).toNat = i + 1:=Int.toNat_natCast _
 have e4:((l.length + 1 - i:Nat):Int).toNat = l.length + 1 - i:=Int.toNat_natCast _
 have e5:((c:Nat):Int).toNat = c:=Int.toNat_natCast _
 obtain ⟨J,hJ⟩:∃ J,J = List.replicate (c - l.length) (junkT 1):=⟨_,rfl⟩
 have hJl:J.length = c - l.length:=by rw [hJ,List.length_replicate]
 simp only [List.length_map,← hJ]
 simp only [tl,tl2,tl4,↓un_u,isCallR,entX,argFr,ret,retI,retB,intT,unT,endR,ressR,resR,tupT,bslR,boxR,lenAll,↓reduceIte,Nat.reduceEqDiff,Nat.reduceAdd,Nat.reduceMul,Nat.reduceLT,Nat.reduceLeDiff,reduceCtorEq,Int.reduceLE,Int.reduceLT,ne_eq,Int.reduceEq,not_false_eq_true,decide_true,decide_false,Int.reduceToNat,tl3,Int.reduceBNe,Int.reduceBEq,rmK,rm1,not_true_eq_false,List.length_map,e1,e2,e3,e4,e5,hw,hw2,hw3,hJl,Nat.sub_zero,Nat.zero_add,List.drop_zero,decide_eq_true_eq,decide_eq_false_iff_not]
 refine ⟨by omega,fun h3=>⟨by omega,by omega,?_⟩,fun h3=>⟨by omega,?_⟩⟩
 ·have h4:c = l.length:=by omega
  subst h4
  have hJ0:J = []:=List.eq_nil_of_length_eq_zero (by rw [hJl];omega)
  clear hJ
  subst hJ0
  have e6:i + (l.length + 1 - i) = l.length + 1:=by omega
  simp only [List.append_nil,← List.map_take,e6]
  have hz:∀ m,ImXs 1 (List.replicate m (.v (.slice none 0 0))):=fun m y hy=>by rw [(List.mem_replicate.1 hy).2];exact ⟨rfl,rfl⟩
  refine W_le [(0,.vw 0 l.length 0 l.length),(1,vI i),(2,.sl 1 [vIs x]),(7,vI (1:Nat)),(9,.vw 40992 (l.length + 1) 0 (l.length + 1))] [(0,.arr 1 (l.map vIs) false),(40992,.arr 1 ((l.take i).map vIs ++ List.replicate (l.length + 1 - i) (.v (.slice none 0 0))) false)] ?_ ?_
  ·refine .of [(0,some 0),(40992,some 40992)] [] rfl (by first | rfl | (rw [hst];rfl)) ?_ ?_
   all_goals (try simp only [ltSto,ltO2,ltO1,ltAs,ltA,ltC,ltC0,ltC0s,ltCs,ltT,ltFr,ltS,wrOk,wrO,TL.get,hasFr,↓reduceIte,Nat.reduceEqDiff,reduceCtorEq,Option.getD_some,Option.isSome_some,List.length_map,List.length_append,List.length_cons,List.length_nil,List.append_nil,List.mem_singleton,List.mem_cons,List.not_mem_nil,and_true,true_and,and_self,imp_self,forall_const,false_implies,implies_true,true_implies,or_false,Bool.false_eq_true,Bool.true_eq_false,ImXs_nil,true_or,or_true,false_or,false_and,and_false,rmK,rm1,List.map_append,List.map_cons,List.map_nil,List.cons_append,List.nil_append])
   all_goals (try (repeat' (first | exact ltXs_nil | (apply ltXs_map;intro _;exact ⟨rfl,rfl⟩) | (apply imXs_map;intro _;exact ⟨rfl,rfl⟩) | with_reducible apply imXs_append | with_reducible refine imXs_cons ⟨rfl,rfl⟩ ?_ | exact imXs_nil | with_reducible apply ltXs_append | with_reducible refine ltXs_cons ⟨rfl,rfl,?_⟩ ?_ | with_reducible apply And.intro | exact ltCs_im rfl | exact ltCs_im (by assumption) | (refine ⟨⟨?_,rfl,?_,rfl,?_⟩,trivial⟩ <;> first | (simp;done) | (apply imXs_map;intro _;exact ⟨rfl,rfl⟩)) | trivial | rfl | (rw [i64_succ (by omega)]) | omega)))
   exact ltXs_refl (hz _)
  have k1:min 1 (l.length + 1 - i) = 1:=by omega
  have k2:min i l.length = i:=by omega
  have k3:min (l.length - i) (l.length + 1 - (i + 1)) = l.length - i:=by omega
  have k4:(1:Nat) + (l.length + 1 - i - 1) = l.length + 1 - i:=by omega
  simp only [tl,tl2,tl4,↓un_u,isCallR,entX,argFr,ret,retI,retB,intT,unT,endR,ressR,resR,tupT,bslR,boxR,lenAll,↓reduceIte,Nat.reduceEqDiff,Nat.reduceAdd,Nat.reduceMul,Nat.reduceLT,Nat.reduceLeDiff,reduceCtorEq,Int.reduceLE,Int.reduceLT,ne_eq,Int.reduceEq,not_false_eq_true,decide_true,decide_false,Int.reduceToNat,tl3,Int.reduceBNe,Int.reduceBEq,rmK,rm1,not_true_eq_false,List.length_map,List.length_append,List.length_replicate,List.length_take,List.length_drop,e1,e2,e3,e4,e5,hw,hw2,hw3,Nat.sub_zero,Nat.zero_add,List.drop_zero,k1,k2,k3,Nat.min_self,e6]
  refine ⟨by omega,by omega,by omega,by omega,by omega,by kernel_rfl,?_⟩
  rw [ins_grow (l.map vIs) ((l.take i).map vIs) (List.replicate (l.length + 1 - i) (.v (.slice none 0 0))) (vIs x) i l.length (by simp) (by simp;omega) (by simp) h2]
  refine .cutv 1 rfl ?_ rfl ?_ ?_
  ·simp only [List.length_append,List.length_drop,List.length_map,List.length_cons,List.length_take];omega
  ·simp only [List.length_append,List.length_drop,List.length_map,List.length_cons,List.length_take];omega
  simp only [cutSt]
  rw [List.take_of_length_le (by simp only [List.length_append,List.length_drop,List.length_map,List.length_cons,List.length_take];omega)]
  simp only [List.map_append,List.map_cons,List.map_drop]
  refine .of [(0,some 0),(1,some 1)] [] rfl (by first | rfl | (rw [hst];rfl)) ?_ ?_
  all_goals (try simp only [ltSto,ltO2,ltO1,ltAs,ltA,ltC,ltC0,ltC0s,ltCs,ltT,ltFr,ltS,wrOk,wrO,TL.get,hasFr,↓reduceIte,Nat.reduceEqDiff,reduceCtorEq,Option.getD_some,Option.isSome_some,List.length_map,List.length_append,List.length_cons,List.length_nil,List.append_nil,List.mem_singleton,List.mem_cons,List.not_mem_nil,and_true,true_and,and_self,imp_self,forall_const,false_implies,implies_true,true_implies,or_false,Bool.false_eq_true,Bool.true_eq_false,ImXs_nil,true_or,or_true,false_or,false_and,and_false,rmK,rm1,List.map_append,List.map_cons,List.map_nil,List.cons_append,List.nil_append])
  all_goals (try (repeat' (first | exact ltXs_nil | (apply ltXs_map;intro _;exact ⟨rfl,rfl⟩) | (apply imXs_map;intro _;exact ⟨rfl,rfl⟩) | with_reducible apply imXs_append | with_reducible refine imXs_cons ⟨rfl,rfl⟩ ?_ | exact imXs_nil | with_reducible apply ltXs_append | with_reducible refine ltXs_cons ⟨rfl,rfl,?_⟩ ?_ | with_reducible apply And.intro | exact ltCs_im rfl | exact ltCs_im (by assumption) | (refine ⟨⟨?_,rfl,?_,rfl,?_⟩,trivial⟩ <;> first | (simp;done) | (apply imXs_map;intro _;exact ⟨rfl,rfl⟩)) | trivial | rfl | (rw [i64_succ (by omega)]) | omega)))
  all_goals (simp only [← List.map_drop,← List.map_take];apply ltXs_map;intro _;exact ⟨rfl,rfl⟩)
 refine ⟨by omega,?_⟩
 refine C1.ovl ovl_slices_overlaps_Lint (by decide) rfl rfl (by rw [List.length_append,List.length_map,hJl];omega) ?_
 have k1:min 1 (l.length + 1 - i) = 1:=by omega
 have k2:l.length + (c - l.length) = c:=by omega
 have k3:min (min (l.length + 1 - i) (c - i)) (l.length + 1 - (i + 1)) = l.length - i:=by omega
 have k4:min (i + 1) c = i + 1:=by omega
 simp only [tl,tl2,tl4,↓un_u,isCallR,entX,argFr,ret,retI,retB,intT,unT,endR,ressR,resR,tupT,bslR,boxR,lenAll,↓reduceIte,Nat.reduceEqDiff,Nat.reduceAdd,Nat.reduceMul,Nat.reduceLT,Nat.reduceLeDiff,reduceCtorEq,Int.reduceLE,Int.reduceLT,ne_eq,Int.reduceEq,not_false_eq_true,decide_true,decide_false,Int.reduceToNat,tl3,Int.reduceBNe,Int.reduceBEq,rmK,rm1,not_true_eq_false,List.length_map,List.length_append,List.length_take,List.length_drop,hJl,e1,e2,e3,e4,e5,hw,hw2,hw3,Nat.sub_zero,Nat.zero_add,List.drop_zero,k1,k2,k3,k4,Nat.min_self]
 refine ⟨by omega,by omega,by omega,by kernel_rfl,by omega,by omega,?_⟩
 rw [ins_room (l.map vIs) J (vIs x) i l.length (by simp) h2]
 have hfl:(List.take i (List.map vIs l) ++ vIs x :: List.drop i (List.map vIs l)).length = l.length + 1:=by
  simp only [List.length_append,List.length_drop,List.length_map,List.length_cons,List.length_take];omega
 refine .cutv 1 rfl ?_ rfl ?_ ?_
 ·rw [List.length_append,hfl,List.length_drop,hJl];omega
 ·rw [List.length_append,hfl,List.length_drop,hJl];omega
 simp only [cutSt]
 rw [List.take_append_of_le_length (by rw [hfl];exact Nat.le_refl _),List.take_of_length_le (by rw [hfl];exact Nat.le_refl _)]
 simp only [List.map_append,List.map_cons,List.map_drop,List.map_take]
 refine .of [(0,some 0),(1,some 1)] [] rfl (by first | rfl | (rw [hst];rfl)) ?_ ?_
 all_goals (try simp only [ltSto,ltO2,ltO1,ltAs,ltA,ltC,ltC0,ltC0s,ltCs,ltT,ltFr,ltS,wrOk,wrO,TL.get,hasFr,↓reduceIte,Nat.reduceEqDiff,reduceCtorEq,Option.getD_some,Option.isSome_some,List.length_map,List.length_append,List.length_cons,List.length_nil,List.append_nil,List.mem_singleton,List.mem_cons,List.not_mem_nil,and_true,true_and,and_self,imp_self,forall_const,false_implies,implies_true,true_implies,or_false,Bool.false_eq_true,Bool.true_eq_false,ImXs_nil,true_or,or_true,false_or,false_and,and_false,rmK,rm1,List.map_append,List.map_cons,List.map_nil,List.cons_append,List.nil_append])
 all_goals (try (repeat' (first | exact ltXs_nil | (apply ltXs_map;intro _;exact ⟨rfl,rfl⟩) | (apply imXs_map;intro _;exact ⟨rfl,rfl⟩) | with_reducible apply imXs_append | with_reducible refine imXs_cons ⟨rfl,rfl⟩ ?_ | exact imXs_nil | with_reducible apply ltXs_append | with_reducible refine ltXs_cons ⟨rfl,rfl,?_⟩ ?_ | with_reducible apply And.intro | exact ltCs_im rfl | exact ltCs_im (by assumption) | (refine ⟨⟨?_,rfl,?_,rfl,?_⟩,trivial⟩ <;> first | (simp;done) | (apply imXs_map;intro _;exact ⟨rfl,rfl⟩)) | trivial | rfl | (rw [i64_succ (by omega)]) | omega)))
 all_goals (simp only [← List.map_drop,← List.map_take];apply ltXs_map;intro _;exact ⟨rfl,rfl⟩)
end Go.Proofs
set_option linter.unusedSimpArgs false
set_option linter.unusedVariables false
namespace Go.Proofs
open Go Go.TL
set_option maxRecDepth 4000
set_option maxHeartbeats 8000000
open So
section
variable {P:Program} {st:Sto} {e:Env} {kss:List (Nat×List Nat)} {Q:Ex→St→Prop} {K:List KF} {rows:Option (List Nat)} {ks:List Nat} {nid:Nat} {ops:List ROp} {F:XF} {acc:Acc}
theorem C1.cutbackF {fid:FuncId} {caps xs ts':List T} {d:Option Nat} {ys zs bs:List T} {m kj:Nat} {fz:Bool} (id nid' k j:Nat) (hs:Spc P fid ts' [(0,.arr k zs false)] (.asl 1 m) [(0,.dead),(1,.arr k ys false)]) (hg:TL.get st id = some (.arr k zs false)) (hj:TL.get st j = some (.arr kj bs fz)) (hz:ImXs k zs) (hy:ImXs k ys)
 (hn:TL.get st nid' = none) (hne2:id≠j) (ha:ltAs st [(0,some id)] [j] (xs ++ caps) ts')
 (h:R P e kss Q rows ks K nid ops (putX F d (.p (.asl nid' m))) (stUp st [(id,.dead),(nid',.arr k ys false),(j,.arr kj bs true)]) (acc ++ [([j] ++ [id,nid',j],[id,nid',j])])):C1 P e kss Q rows ks K (.clo fid caps) xs d nid ops F st acc:=by
 have hne:id≠nid':=fun e=>by subst e;rw [hg] at hn;cases hn
 have hne3:nid'≠j:=fun e=>by subst e;rw [hj] at hn;cases hn
 refine C1.of [(0,some id)] [(nid',some 1)] [j] [(id,.dead),(nid',.arr k ys false),(j,.arr kj bs true)] hs ha (by simp [renOk,TL.get]) ?_ (by simp;exact fun e=>hne2 e.symm) (by simp [TL.get]) ?_ ?_ (by rfl) ?_ (.inl ?_) h
 ·refine ⟨?_,trivial⟩
  simp only [TL.get,if_true,ltO2,hg,ltO1]
  refine ⟨trivial,by simp,ltXs_refl hz,fun hb=>?_⟩
  simp at hb
  exact absurd hb hne2
 ·refine ⟨?_,?_,trivial⟩
  ·simp only [TL.get,if_true,wrO,ltO1,Nat.reduceEqDiff,↓reduceIte,reduceCtorEq]
   exact ⟨⟨trivial,by simp,ltXs_refl hy,by simp⟩,.inl hn⟩
  ·rw [show TL.get [(nid',some 1)] j = none by simp [TL.get,hne3]]
   refine ⟨rfl,?_,?_⟩
   ·rw [hj];exact ⟨rfl,rfl⟩
   ·intro p hp
    simp at hp
    subst hp
    simp
    exact hne2
 ·simp [renOk,TL.get,hne]
 ·exact ⟨by simp [TL.get],rfl⟩
 ·simp [fzOk,TL.get,hne2,hne3]
end
theorem selR_len (g:List Int) (rs:List (List Int)) (r:List Int):(selR g rs r).length≤1:=by
 unfold selR
 split
 ·simp
 ·split <;> simp
theorem sel_len (g:List Int) (rs:List (List Int)):∀ a:List (List Int),(a.flatMap (selR g rs)).length≤a.length
 | []=>by simp
 | r :: a=>by
   rw [List.flatMap_cons,List.length_append,List.length_cons]
   have:=sel_len g rs a
   have:=selR_len g rs r
   omega
theorem pin_len:∀ (rs l:List (List Int)),(rs.foldl pinR l).length≤l.length + rs.length
 | [],l=>by simp
 | r :: rs,l=>by
   rw [List.foldl_cons,List.length_cons]
   have h1:=pin_len rs (pinR l r)
   have h2:(pinR l r).length≤l.length + 1:=by
    unfold pinR
    split
    ·omega
    ·rw [List.length_append,List.length_cons,List.length_take,List.length_drop];omega
   omega
theorem c_refresh_Apply (a:Ext) (c:Chg) (ha:ExtSm a) (hc:ChgSm c):Spc Tryz.prog F_refresh_Apply [extT a,chgT c] [] (.tup [extT (appX a c),vI (appE a c)]) []:=by
 have hE:=(rfl:appE a c = appE a c)
 have hS:appX a c = if appE a c≠0 then ⟨⟨#[]⟩,0,[],[]⟩ else ⟨a.proj,c.ver,a.picks,appR a.rows c.gone c.rows⟩:=rfl
 conv at hE=>rhs;unfold appE
 have hbad:∀ v,v≠0→appE a c = v→appX a c = ⟨⟨#[]⟩,0,[],[]⟩∧appE a c = v:=fun v h1 h2=>⟨by rw [hS,h2,if_pos h1],h2⟩
 have hgood:appE a c = 0→appX a c = ⟨a.proj,c.ver,a.picks,appR a.rows c.gone c.rows⟩:=fun h=>by rw [hS,h,if_neg (by simp)]
 clear hS
 generalize appE a c = E at hE hbad hgood ⊢
 generalize appX a c = A at hbad hgood ⊢
 have har:=ha.rows
 have hcr:=hc.rows
 have hap:=ha.picks
 have hla:=har.1
 have hlc:=hcr.1
 have hlg:=hc.gone
 refine spec_of_ir fn_refresh_Apply mixm (by simp) fun e _ hst=>W_start ?_
 unfold ir_refresh_Apply
 refine sW ?_
 refine C1.im (c_refresh_ordered a.rows har.1) (by rfl) (by rfl) ?_
 refine sW ?_
 refine C2.im (fun _=>c_refresh_ascends c.gone (by omega)) (fun _=>rfl) (by rfl) ?_
 refine sW ?_
 refine C2.im (fun _=>c_refresh_ordered c.rows hcr.1) (fun _=>rfl) (by rfl) ?_
 refine sW ?_
 have hCF:=c_slices_ContainsFunc_Lint (fun r=>decide (r.length≠a.picks.length + 1)) F_refresh_Apply_1 [.ip (extT a).cells] rfl c.rows (fun r _=>c_refresh_Apply_1 a (by omega) r) (by omega)
 refine C2.lend [4096] (fun _=>hCF) (fun _=>?_) (by rfl) (by rfl) ?_
 ·all_goals (try simp only [tL,simprocAttr,List.map_append,List.map_cons,List.map_nil,List.cons_append,List.nil_append])
  all_goals (try (repeat' (first | exact ltXs_nil | (apply ltXs_map;intro _;exact ⟨rfl,rfl⟩) | (apply imXs_map;intro _;exact ⟨rfl,rfl⟩) | with_reducible apply imXs_append | with_reducible refine imXs_cons ⟨rfl,rfl⟩ ?_ | exact imXs_nil | with_reducible apply ltXs_append | with_reducible refine ltXs_cons ⟨rfl,rfl,?_⟩ ?_ | with_reducible apply And.intro | exact ltCs_im rfl | exact ltCs_im (by assumption) | (refine ⟨⟨?_,rfl,?_,rfl,?_⟩,trivial⟩ <;> first | (simp;done) | (apply imXs_map;intro _;exact ⟨rfl,rfl⟩)) | trivial | rfl | (rw [i64_succ (by omega)]) | omega)))
  simp only [ltP]
  exact ⟨rfl,by omega,rfl,imXs_cons ⟨rfl,rfl⟩ imXs_nil⟩
 simp only [tZ,↓un_u,simprocAttr,tD,Bool.not_eq_true',Bool.not_eq_false']
 refine ⟨fun h=>?_,fun h=>?_⟩
 ·obtain ⟨a1,a2⟩:=hbad 11 (by decide) (by rw [hE,if_pos (by grind)])
  rw [a1,a2]
  exact .oA [] []
 rw [if_neg (by grind)] at hE
 obtain ⟨hap1,hasa⟩:=ordB_ok.1 h.1.1.1
 obtain ⟨hcp1,hasc⟩:=ordB_ok.1 h.1.2
 refine W_loopF mixm (α:=Nat) [49] (fun i=>i≤c.gone.length∧(c.gone.take i).any (fun k=>!hasK a.rows k) = false) (fun i=>[(49,vI i)]) (fun i=>[(4096,.arr 4 [extT a] false),(4100,.arr 3 [chgT c] false),(4104,.arr 4 [extT ⟨⟨#[]⟩,0,[],[]⟩] false)]) (fun i=>c.gone.length - i) 0 ⟨by omega,rfl⟩ ?_ fun i hi=>?_
 ·exact .oA [(4096,some 4096),(4100,some 4100),(4104,some 4104)] []
 obtain ⟨i1,i2⟩:=hi
 refine sD ?_
 refine ⟨fun h2=>?_,fun h2=>?_⟩
 ·have hi2:i < c.gone.length:=by omega
  have hwi:=i64_succ (i:=i) (by omega)
  have hfd:=c_refresh_find a.rows c.gone[i] (by omega) hap1 hasa
  simp only [tZ,↓un_u,simprocAttr,Int.toNat_natCast,getD_mapT hi2]
  refine ⟨by omega,?_⟩
  refine C1.im hfd (by rfl) (by rfl) ?_
  simp only [tZ,↓un_u,simprocAttr,Bool.not_eq_true',Bool.not_eq_false']
  refine ⟨fun h3=>?_,fun h3=>?_⟩
  ·obtain ⟨a1,a2⟩:=hbad 21 (by decide) (by rw [hE,if_pos (any_at (p:=fun k=>!hasK a.rows k) hi2 (by rw [h3];rfl))])
   rw [a1,a2]
   exact .oA [] []
  ·simp only [tZ,↓un_u,simprocAttr,hwi]
   refine ⟨i + 1,⟨by omega,any_snoc hi2 i2 (by rw [h3];rfl)⟩,by omega,?_⟩
   exact .oA [(4096,some 4096),(4100,some 4100),(4104,some 4104)] []
 have hil:i = c.gone.length:=by omega
 subst hil
 rw [List.take_length] at i2
 rw [if_neg (by rw [i2];simp)] at hE
 refine W_loopF mixm (α:=Nat) [67] (fun i=>i≤c.rows.length∧(c.rows.take i).any (fun r=>c.gone.contains (hd r)) = false) (fun i=>[(67,vI i)]) (fun i=>[(4096,.arr 4 [extT a] false),(4100,.arr 3 [chgT c] false),(4104,.arr 4 [extT ⟨⟨#[]⟩,0,[],[]⟩] false)]) (fun i=>c.rows.length - i) 0 ⟨by omega,rfl⟩ ?_ fun i hi=>?_
 ·exact .oA [(4096,some 4096),(4100,some 4100),(4104,some 4104)] []
 obtain ⟨j1,j2⟩:=hi
 refine sD ?_
 refine ⟨fun h2=>?_,fun h2=>?_⟩
 ·have hi2:i < c.rows.length:=by omega
  have hwi:=i64_succ (i:=i) (by omega)
  have hgi:=getD_hd (hcp1 _ (List.getElem_mem hi2))
  have hpi:=hcp1 _ (List.getElem_mem hi2)
  have hct:=c_slices_Contains_int c.gone (hd c.rows[i]) (by omega)
  simp only [tZ,↓un_u,simprocAttr,Int.toNat_natCast,getD_mapT hi2,hgi]
  refine ⟨by omega,by omega,?_⟩
  refine C1.im hct (by rfl) (by rfl) ?_
  refine sW ?_
  refine ⟨by kernel_rfl,fun h3=>?_,fun h3=>?_⟩
  ·obtain ⟨a1,a2⟩:=hbad 10 (by decide) (by rw [hE,if_pos (List.any_eq_true.2 ⟨hd c.rows[i],List.contains_iff_mem.1 h3,hasK_iff.2 ⟨_,List.getElem_mem hi2,rfl⟩⟩)])
   rw [a1,a2]
   exact .oA [] []
  ·simp only [tZ,↓un_u,simprocAttr,hwi]
   refine ⟨i + 1,⟨by omega,any_snoc hi2 j2 h3⟩,by omega,?_⟩
   exact .oA [(4096,some 4096),(4100,some 4100),(4104,some 4104)] []
 have hil:i = c.rows.length:=by omega
 subst hil
 rw [List.take_length] at j2
 have hdis:∀ r∈c.rows,c.gone.contains (hd r) = false:=fun r hr=>by
  have:=List.any_eq_false.1 j2 r hr
  simpa using this
 rw [if_neg (by
  intro k
  obtain ⟨x,hx,e⟩:=List.any_eq_true.1 k
  obtain ⟨r,hr,e⟩:=hasK_iff.1 e
  have:=hdis r hr
  rw [e,List.contains_iff_mem.2 hx] at this
  cases this)] at hE
 have a1:=hgood hE
 rw [a1,hE,← app2_eq hasa hasc hdis]
 clear hbad hgood i2 j2
 refine C1.im (c_slices_Clone_Pick a.picks hap) (by rfl) (by rfl) ?_
 refine sW ?_
 refine ⟨by kernel_rfl,?_⟩
 have hL0:(a.rows.take 0).flatMap (selR c.gone c.rows) = []:=rfl
 refine W_loopF mixm (α:=Nat) [90] (fun i=>i≤a.rows.length) (fun i=>[(90,vI i)]) (fun i=>[(4100,.arr 3 [chgT c] false),(4104,.arr 4 [extT ⟨⟨#[]⟩,0,[],[]⟩] false),(73760,.arr 4 [.agg [vS a.proj,vI c.ver,vPs a.picks,.asl 1 ((a.rows.take i).flatMap (selR c.gone c.rows)).length]] false),(1,.arr 1 (((a.rows.take i).flatMap (selR c.gone c.rows)).map vIs) false)]) (fun i=>a.rows.length - i) 0 (by omega) ?_ fun i hi=>?_
 ·exact .oA [(4100,some 4100),(4104,some 4104),(73760,some 73760),(1,none)] []
 have hsl:=sel_len c.gone c.rows (a.rows.take i)
 rw [List.length_take] at hsl
 refine sD ?_
 refine ⟨fun h2=>?_,fun h2=>?_⟩
 ·have hi2:i < a.rows.length:=by omega
  have hwi:=i64_succ (i:=i) (by omega)
  have hpi:=hap1 _ (List.getElem_mem hi2)
  have hgi:=getD_hd hpi
  have hsp:(a.rows.take (i + 1)).flatMap (selR c.gone c.rows) = (a.rows.take i).flatMap (selR c.gone c.rows) ++ selR c.gone c.rows a.rows[i]:=by
   rw [take_snoc hi2,List.flatMap_append,List.flatMap_cons,List.flatMap_nil,List.append_nil]
  have hcl:=c_slices_Clone_int a.rows[i] (har.2 _ (List.getElem_mem hi2))
  have hct:=c_slices_Contains_int c.gone (hd a.rows[i]) (by omega)
  have hfd:=c_refresh_find c.rows (hd a.rows[i]) (by omega) hcp1 hasc
  generalize (a.rows.take i).flatMap (selR c.gone c.rows) = L at hsl hsp ⊢
  simp only [tZ,↓un_u,simprocAttr,Int.toNat_natCast,getD_mapT hi2,hgi]
  refine ⟨by omega,by omega,?_⟩
  refine C1.im hfd (by rfl) (by rfl) ?_
  cases h4:hasK c.rows (hd a.rows[i]) with
  | true=>
    obtain ⟨f2,f3⟩:=fndN_at hasc h4
    generalize fndN c.rows (hd a.rows[i]) = j at f2 f3 ⊢
    have hse:selR c.gone c.rows a.rows[i] = [c.rows[j]]:=by unfold selR;rw [f3]
    rw [hse] at hsp
    have hspl:=congrArg List.length hsp
    simp only [List.length_append,List.length_cons,List.length_nil] at hspl
    have hcj:=c_slices_Clone_int c.rows[j] (hcr.2 _ (List.getElem_mem f2))
    simp only [tZ,↓un_u,simprocAttr,Int.toNat_natCast,getD_mapT f2]
    refine ⟨by kernel_rfl,by omega,?_⟩
    refine C1.im hcj (by rfl) (by rfl) ?_
    simp only [tZ,↓un_u,simprocAttr,hwi]
    refine ⟨by omega,by kernel_rfl,i + 1,by omega,by omega,?_⟩
    rw [hsp]
    exact .oA [(4100,some 4100),(4104,some 4104),(73760,some 73760),(1,some 1)] []
  | false=>
    have hse:selR c.gone c.rows a.rows[i] = if c.gone.contains (hd a.rows[i]) = true then [] else [a.rows[i]]:=by unfold selR;rw [rowK_none.2 h4]
    rw [hse] at hsp
    simp only [tZ,↓un_u,simprocAttr,Int.toNat_natCast,hgi]
    refine ⟨by kernel_rfl,by omega,?_⟩
    refine C1.im hct (by rfl) (by rfl) ?_
    simp only [tZ,↓un_u,simprocAttr,Bool.not_eq_true',Bool.not_eq_false']
    refine ⟨by kernel_rfl,fun h5=>?_,fun h5=>?_⟩
    ·rw [if_neg (by rw [h5];simp)] at hsp
     have hspl:=congrArg List.length hsp
     simp only [List.length_append,List.length_cons,List.length_nil] at hspl
     refine C1.im hcl (by rfl) (by rfl) ?_
     simp only [tZ,↓un_u,simprocAttr,hwi]
     refine ⟨by omega,by kernel_rfl,i + 1,by omega,by omega,?_⟩
     rw [hsp]
     exact .oA [(4100,some 4100),(4104,some 4104),(73760,some 73760),(1,some 1)] []
    ·rw [if_pos h5,List.append_nil] at hsp
     simp only [tZ,↓un_u,simprocAttr,hwi]
     refine ⟨i + 1,by omega,by omega,?_⟩
     rw [hsp]
     exact .oA [(4100,some 4100),(4104,some 4104),(73760,some 73760),(1,some 1)] []
 have hil:i = a.rows.length:=by omega
 subst hil
 clear hL0
 rw [List.take_length] at hsl ⊢
 have hq1:=sel_asc (g:=c.gone) (rs:=c.rows) hasa
 have hq2:∀ x∈a.rows.flatMap (selR c.gone c.rows),0 < x.length:=fun x hx=>by
  obtain ⟨r,hr,hx⟩:=List.mem_flatMap.1 hx
  unfold selR at hx
  split at hx
  ·rename_i q e
   rw [List.mem_singleton] at hx
   subst hx
   exact hcp1 _ (rowK_hd e).2
  ·split at hx
   ·simp at hx
   ·rw [List.mem_singleton] at hx
    subst hx
    exact hap1 _ hr
 unfold app2
 generalize a.rows.flatMap (selR c.gone c.rows) = L at hsl hq1 hq2 ⊢
 refine W_loopF mixm (α:=Nat) [133] (fun i=>i≤c.rows.length) (fun i=>[(133,vI i)]) (fun i=>[(4104,.arr 4 [extT ⟨⟨#[]⟩,0,[],[]⟩] false),(73760,.arr 4 [.agg [vS a.proj,vI c.ver,vPs a.picks,.asl 1 ((c.rows.take i).foldl pinR L).length]] false),(1,.arr 1 (((c.rows.take i).foldl pinR L).map vIs) false)]) (fun i=>c.rows.length - i) 0 (by omega) ?_ fun i hi=>?_
 ·exact .oA [(4104,some 4104),(73760,some 73760),(1,some 1)] []
 have hpl:=pin_len (c.rows.take i) L
 rw [List.length_take] at hpl
 refine sD ?_
 refine ⟨fun h2=>?_,fun h2=>?_⟩
 ·have hi2:i < c.rows.length:=by omega
  have hwi:=i64_succ (i:=i) (by omega)
  have hpi:=hcp1 _ (List.getElem_mem hi2)
  have hgi:=getD_hd hpi
  have hsp:(c.rows.take (i + 1)).foldl pinR L = pinR ((c.rows.take i).foldl pinR L) c.rows[i]:=by rw [take_snoc hi2,List.foldl_append];rfl
  obtain ⟨p1,p2⟩:=pinRs_ok (c.rows.take i) L hq1 (hasc.sublist (List.take_sublist _ _))
  have p3:∀ x∈(c.rows.take i).foldl pinR L,0 < x.length:=fun x hx=>by
   rcases (p2 x).1 hx with m | ⟨m,_⟩
   ·exact hq2 _ m
   ·exact hcp1 _ (List.mem_of_mem_take m)
  generalize (c.rows.take i).foldl pinR L = C at hpl hsp p1 p3 ⊢
  clear p2
  have hfd:=c_refresh_find C (hd c.rows[i]) (by omega) p3 p1
  have hcl:=c_slices_Clone_int c.rows[i] (hcr.2 _ (List.getElem_mem hi2))
  have hin:=c_slices_Insert_Lint C c.rows[i] (fndN C (hd c.rows[i])) (fndN_le _ _) (by omega)
  simp only [tZ,↓un_u,simprocAttr,Int.toNat_natCast,getD_mapT hi2,hgi]
  refine ⟨by omega,by omega,?_⟩
  refine C1.lend [1] hfd ?_ (by rfl) (by rfl) ?_
  ·all_goals (try simp only [tL,simprocAttr,List.map_append,List.map_cons,List.map_nil,List.cons_append,List.nil_append])
   all_goals (try (repeat' (first | exact ltXs_nil | (apply ltXs_map;intro _;exact ⟨rfl,rfl⟩) | (apply imXs_map;intro _;exact ⟨rfl,rfl⟩) | with_reducible apply imXs_append | with_reducible refine imXs_cons ⟨rfl,rfl⟩ ?_ | exact imXs_nil | with_reducible apply ltXs_append | with_reducible refine ltXs_cons ⟨rfl,rfl,?_⟩ ?_ | with_reducible apply And.intro | exact ltCs_im rfl | exact ltCs_im (by assumption) | (refine ⟨⟨?_,rfl,?_,rfl,?_⟩,trivial⟩ <;> first | (simp;done) | (apply imXs_map;intro _;exact ⟨rfl,rfl⟩)) | trivial | rfl | (rw [i64_succ (by omega)]) | omega)))
   done
  simp only [tZ,↓un_u,simprocAttr,Bool.not_eq_true',Bool.not_eq_false']
  refine ⟨by kernel_rfl,fun h4=>?_,fun h4=>?_⟩
  ·have hpe:pinR C c.rows[i] = C.take (fndN C (hd c.rows[i])) ++ c.rows[i] :: C.drop (fndN C (hd c.rows[i])):=by unfold pinR;rw [if_neg (by rw [h4];simp)]
   have hfl:=fndN_le C (hd c.rows[i])
   have hel:(pinR C c.rows[i]).length = C.length + 1:=by
    rw [hpe,List.length_append,List.length_cons,List.length_take,List.length_drop];omega
   refine C1.im hcl (by rfl) (by rfl) ?_
   refine sW ?_
   refine C1.cutbackF 1 135192 1 135188 hin rfl rfl (by apply imXs_map;intro _;exact ⟨rfl,rfl⟩) (by apply imXs_map;intro _;exact ⟨rfl,rfl⟩) (by rfl) (by decide) ?_ ?_
   ·all_goals (try simp only [tL,simprocAttr,List.map_append,List.map_cons,List.map_nil,List.cons_append,List.nil_append])
    all_goals (try (repeat' (first | exact ltXs_nil | (apply ltXs_map;intro _;exact ⟨rfl,rfl⟩) | (apply imXs_map;intro _;exact ⟨rfl,rfl⟩) | with_reducible apply imXs_append | with_reducible refine imXs_cons ⟨rfl,rfl⟩ ?_ | exact imXs_nil | with_reducible apply ltXs_append | with_reducible refine ltXs_cons ⟨rfl,rfl,?_⟩ ?_ | with_reducible apply And.intro | exact ltCs_im rfl | exact ltCs_im (by assumption) | (refine ⟨⟨?_,rfl,?_,rfl,?_⟩,trivial⟩ <;> first | (simp;done) | (apply imXs_map;intro _;exact ⟨rfl,rfl⟩)) | trivial | rfl | (rw [i64_succ (by omega)]) | omega)))
    done
   simp only [tZ,↓un_u,simprocAttr,hwi]
   refine ⟨by rw [List.length_take,List.length_drop];omega,by kernel_rfl,i + 1,by omega,by omega,?_⟩
   rw [hsp,hel,hpe]
   exact .oA [(4104,some 4104),(73760,some 73760),(1,some 135192)] []
  ·have hpe:pinR C c.rows[i] = C:=by unfold pinR;rw [if_pos h4]
   simp only [tZ,↓un_u,simprocAttr,hwi]
   refine ⟨i + 1,by omega,by omega,?_⟩
   rw [hsp,hpe]
   exact .oA [(4104,some 4104),(73760,some 73760),(1,some 1)] []
 have hil:i = c.rows.length:=by omega
 subst hil
 rw [List.take_length]
 exact .oA [] [1]
end Go.Proofs
set_option linter.unusedSimpArgs false
set_option linter.unusedVariables false
namespace Go.Proofs
open Go Go.TL
open Go.TL.So
theorem c_isNaN_I (n:Int):Spc Tryz.prog F_cmp_isNaN_int [vI n] [] (vB false) []:=by
 refine spec_of_ir fn_cmp_isNaN_int mixm (by simp) fun e _ hst=>W_start ?_
 unfold ir_cmp_isNaN_int
 simp only [tZ,↓un_u,simprocAttr,bne_self_eq_false]
 exact .oA [] []
theorem c_cmp_Less_int (a b:Int):Spc Tryz.prog F_cmp_Less_int [vI a,vI b] [] (vB (ltI a b)) []:=by
 refine spec_of_ir fn_cmp_Less_int mixm (by simp) fun e _ hst=>W_start ?_
 unfold ir_cmp_Less_int
 refine sW ?_
 refine C1.im (c_isNaN_I a) (by rfl) (by rfl) ?_
 refine sW ?_
 refine C2.no (by simp) ?_
 refine sW ?_
 exact .oA [] []
end Go.Proofs
set_option linter.unusedSimpArgs false
set_option linter.unusedVariables false
namespace Go.Proofs
open Go Go.TL
open Go.TL.So
theorem len_wrap (k:UInt8):IntKind.i64.wrap (0 + IntKind.i64.wrap ((k.toNat:Nat):Int)) = (k.toNat:Int):=by
 have h:=k.toNat_lt
 rw [IntWalk.i64_in (k.toNat:Int) (by omega),IntWalk.i64_in _ (by omega)];omega
def L8 (n:Nat):Nat:=if n = 0 then 0 else Nat.log2 n + 1
theorem L8_ok (n:Nat) (h:n < 256):L8 n≤8∧n < 2 ^ L8 n∧(0 < n→2 ^ L8 n≤2 * n):=by
 unfold L8
 revert n
 decide +kernel
def L16 (n:Nat):Nat:=if n < 256 then L8 n else 8 + L8 (n / 256)
theorem L16_ok (n:Nat) (h:n < 65536):L16 n≤16∧n < 2 ^ L16 n∧(0 < n→2 ^ L16 n≤2 * n):=by
 unfold L16
 split
 ·rename_i h2
  obtain ⟨h3,h4,h5⟩:=L8_ok n h2
  exact ⟨by omega,h4,h5⟩
 ·rename_i h2
  obtain ⟨h3,h4,h5⟩:=L8_ok (n / 256) (by omega)
  rw [Nat.pow_add]
  have h6:=h5 (by omega)
  generalize 2 ^ L8 (n / 256) = p at *
  refine ⟨by omega,?_,fun _=>?_⟩ <;> omega
set_option maxRecDepth 100000 in
theorem c_math_bits_Len64 (n:Nat) (h:n < 65536):Spc Tryz.prog F_math_bits_Len64 [vU64 n] [] (vI (L16 n)) []:=by
 have d1:decide ((n:Int)≥4294967296) = false:=decide_eq_false (by omega)
 have d2:decide ((n:Int)≥65536) = false:=decide_eq_false (by omega)
 by_cases h8:n < 256
 ·have d3:decide ((n:Int)≥256) = false:=decide_eq_false (by omega)
  have hw:IntKind.u8.wrap (n:Int) = n:=by rw [IntKind.wrap_u8];omega
  rw [L16,if_pos h8]
  refine spec_of_ir fn_math_bits_Len64 mixm (by simp) fun e _ hst=>W_start ?_
  unfold ir_math_bits_Len64
  simp only [tZ,↓un_u,simprocAttr,d1,d2,d3,hw,Int.toNat_natCast,len_wrap]
  refine ⟨⟨by omega,Int.ofNat_lt.2 h8⟩,.imR (congrArg (fun k:Nat=>vI (k:Int)) ?_) rfl⟩
  clear d1 d2 d3 hw h
  unfold L8
  revert n
  decide +kernel
 ·have d3:decide ((n:Int)≥256) = true:=decide_eq_true (by omega)
  have hs:shrI .u64 (n:Int) 8 = ((n / 256:Nat):Int):=by
   simp only [shrI]
   rw [show min (8:Int).toNat IntKind.u64.bits = 8 from rfl,show (2:Int) ^ 8 = 256 from rfl,Int.fdiv_eq_ediv_of_nonneg _ (by omega)]
   omega
  have hw:IntKind.u8.wrap ((n / 256:Nat):Int) = ((n / 256:Nat):Int):=by rw [IntKind.wrap_u8];omega
  have hw2:IntKind.i64.wrap (0 + 8) = 8:=by decide
  rw [L16,if_neg h8]
  refine spec_of_ir fn_math_bits_Len64 mixm (by simp) fun e _ hst=>W_start ?_
  unfold ir_math_bits_Len64
  simp only [tZ,↓un_u,simprocAttr,d1,d2,d3,hs,hw,hw2,Int.toNat_natCast]
  have hm:n / 256 < 256:=by omega
  refine ⟨⟨by omega,Int.ofNat_lt.2 hm⟩,.imR (congrArg vI ?_) rfl⟩
  clear d1 d2 d3 hw hw2 hs h h8 hst
  generalize n / 256 = m at *
  unfold L8
  revert m
  decide +kernel
theorem c_math_bits_Len (n:Nat) (h:n < 65536):∃ l:Nat,(l≤16∧n < 2 ^ l∧(0 < n→2 ^ l≤2 * n))∧Spc Tryz.prog F_math_bits_Len [vU64 n] [] (vI l) []:=by
 have hs:=c_math_bits_Len64 n h
 refine ⟨L16 n,L16_ok n h,?_⟩
 refine spec_of_ir fn_math_bits_Len mixm (by simp) fun e _ hst=>W_start ?_
 unfold ir_math_bits_Len
 refine sW ?_
 refine C1.im hs (by rfl) (by rfl) ?_
 refine sW ?_
 exact .imR rfl rfl
def xs1 (v:Int):Int:=xorI .u64 v (shlI .u64 v 13)
def xs2 (v:Int):Int:=xorI .u64 v (shrI .u64 v 7)
end Go.Proofs
set_option linter.unusedSimpArgs false
set_option linter.unusedVariables false
namespace Go.Proofs
open Go Go.TL
open Go.TL.So
set_option maxHeartbeats 2000000
theorem gdT_int {xs:List Int} {i:Nat} (h:i < xs.length):(xs.map vI).getD i .junk = vI (gd xs i):=by rw [gd_get h];exact getD_mapT h
theorem replT_int (x y:Int):repl (vI x) 0 (vI y) = vI y:=rfl
theorem cellT_int (x:Int):(vI x).cells.getD 0 .junk = vI x:=rfl
theorem setT_int (xs:List Int) (i:Nat) (v:Int):(xs.map vI).set i (vI v) = (xs.set i v).map vI:=List.map_set.symm
theorem swpT_int (xs:List Int) (i j:Nat):((xs.set i (gd xs j)).set j (gd xs i)) = swp xs i j:=rfl
theorem c_slices_insertionSortOrdered_int (xs:List Int) (a b:Nat) (hab:a≤b) (hb:b≤xs.length) (hl:xs.length < 4611686018427387904) :
 Spc Tryz.prog F_slices_insertionSortOrdered_int [.asl 0 xs.length,vI a,vI b] [(0,.arr 1 (xs.map vI) false)] (.tup []) [(0,.arr 1 ((insS ltI xs a b).map vI) false)]:=by
 have hw:=i64_succ (i:=a) (by omega)
 refine spec_of_ir fn_slices_insertionSortOrdered_int mixm (by simp) fun e _ hst=>W_start ?_
 unfold ir_slices_insertionSortOrdered_int
 simp only [tZ,↓un_u,simprocAttr,hw]
 refine W_loopF mixm (α:=List Int×Nat) [6] (fun q=>q.1.length = xs.length∧a + 1≤q.2∧(q.2≤b∨q.2 = a + 1)∧insF ltI a (b - q.2) q.2 q.1 = insS ltI xs a b) (fun q=>[(6,vI q.2)]) (fun q=>[(0,.arr 1 (q.1.map vI) false)]) (fun q=>b - q.2) (xs,a + 1) ⟨rfl,Nat.le_refl _,.inr rfl,rfl⟩ ?_ fun q hq=>?_
 ·exact .oA [(0,some 0)] []
 obtain ⟨ys,i⟩:=q
 obtain ⟨h1,h2,h3,h4⟩:=hq
 dsimp only at h1 h2 h3 h4
 simp only [tZ,↓un_u,simprocAttr,decide_eq_true_eq,decide_eq_false_iff_not]
 refine ⟨fun h5=>?_,fun h5=>?_⟩
 ·have hi2:i < b:=by omega
  rw [show b - i = (b - (i + 1)) + 1 by omega,insF] at h4
  refine W_loopF mixm (α:=List Int×Nat) [7] (fun q=>q.1.length = xs.length∧a≤q.2∧q.2≤i∧insJ ltI a q.2 q.1 = insJ ltI a i ys) (fun q=>[(7,vI q.2)]) (fun q=>[(0,.arr 1 (q.1.map vI) false)]) (fun q=>q.2) (ys,i) ⟨h1,by omega,Nat.le_refl _,rfl⟩ ?_ fun q hq=>?_
  ·exact .oA [(0,some 0)] []
  obtain ⟨zs,j⟩:=q
  obtain ⟨g1,g2,g3,g4⟩:=hq
  dsimp only at g1 g2 g3 g4
  by_cases hj:a < j
  ·obtain ⟨j,rfl⟩:∃ k,j = k + 1:=⟨j - 1,by omega⟩
   have hwj:IntKind.i64.wrap (((j + 1:Nat):Int) - 1) = (j:Int):=by rw [IntWalk.i64_in _ (by omega)];omega
   have hd:decide (((j + 1:Nat):Int) > a) = true:=by simp;omega
   simp only [tZ,↓un_u,simprocAttr,hwj,hd,Int.toNat_natCast,gdT_int (show j < zs.length by omega),gdT_int (show j + 1 < zs.length by omega)]
   refine ⟨⟨g1,by omega,by omega⟩,⟨g1,by omega⟩,⟨g1,by omega,by omega⟩,⟨g1,by omega⟩,?_⟩
   refine C2.one (by trivial) (C1.im (c_cmp_Less_int (gd zs (j + 1)) (gd zs j)) (by rfl) (by rfl) ?_)
   have hsl:(zs.set (j + 1) (gd zs j)).length = zs.length:=List.length_set
   simp only [tZ,↓un_u,simprocAttr,hwj,Int.toNat_natCast,gdT_int (show j < zs.length by omega),gdT_int (show j + 1 < zs.length by omega),replT_int,cellT_int,setT_int,gdT_int (show j < (zs.set (j + 1) (gd zs j)).length by omega),swpT_int]
   have hin:insJ ltI a (j + 1) zs = if a < j + 1∧ltI (gd zs (j + 1)) (gd zs j) = true then insJ ltI a j (swp zs (j + 1) j) else zs:=rfl
   refine ⟨by kernel_rfl,fun h6=>?_,fun h6=>?_⟩
   ·refine ⟨⟨g1,by omega,by omega⟩,⟨g1,by omega⟩,⟨g1,by omega,by omega⟩,⟨g1,by omega⟩,⟨g1,by omega,by omega⟩,⟨g1,by omega⟩,⟨by omega,by omega,by omega⟩,⟨by omega,by omega⟩,by kernel_rfl,(swp zs (j + 1) j,j),⟨by dsimp only;rw [swp_len];exact g1,by dsimp only;omega,by dsimp only;omega,?_⟩,by dsimp only;omega,?_⟩
    ·rw [← g4,hin,if_pos ⟨hj,h6⟩]
    ·exact .oA [(0,some 0)] []
   ·rw [hin,if_neg (fun e=>by rw [h6] at e;exact absurd e.2 (by simp))] at g4
    have hwi:=i64_succ (i:=i) (by omega)
    refine ⟨(zs,i + 1),⟨g1,by dsimp only;omega,by dsimp only;omega,?_⟩,by dsimp only;omega,?_⟩
    ·dsimp only;rw [g4];exact h4
    ·rw [hwi]
     exact .oA [(0,some 0)] []
  ·have hd:decide ((j:Int) > a) = false:=by simp;omega
   have hwi:=i64_succ (i:=i) (by omega)
   have hin:insJ ltI a j zs = zs:=by
    cases j with
    | zero=>rfl
    | succ j=>unfold insJ;rw [if_neg (fun e=>hj e.1)]
   rw [hin] at g4
   simp only [tZ,↓un_u,simprocAttr,hd,hwi]
   refine C2.no (fun h=>h) ?_
   simp only [tZ,↓un_u,simprocAttr,hwi]
   refine ⟨by kernel_rfl,(zs,i + 1),⟨g1,by dsimp only;omega,by dsimp only;omega,?_⟩,by dsimp only;omega,?_⟩
   ·dsimp only;rw [g4];exact h4
   ·exact .oA [(0,some 0)] []
 ·rw [show b - i = 0 by omega,insF] at h4
  rw [← h4]
  exact .oA [(0,some 0)] []
theorem updT_int {st:Sto} {B:List Nat} (n:Nat) (ts:List T) (h:imAL ts = true):ltAs st [(0,some 0)] B (.asl 0 n :: ts) (.asl 0 n :: ts):=⟨by simp [ltA,ltC,ltC0,TL.get],ltAs_im h⟩
theorem c_slices_pdqS_int (xs:List Int) (lim:Nat) (hl:xs.length≤12) :
 Spc Tryz.prog F_slices_pdqsortOrdered_int [.asl 0 xs.length,vI 0,vI xs.length,vI lim] [(0,.arr 1 (xs.map vI) false)] (.tup []) [(0,.arr 1 ((insS ltI xs 0 xs.length).map vI) false)]:=by
 have hw1:IntKind.i64.wrap ((xs.length:Int) - 0) = (xs.length:Int):=by rw [IntWalk.i64_in _ (by omega)];omega
 have hin:=c_slices_insertionSortOrdered_int xs 0 xs.length (by omega) (by omega) (by omega)
 refine spec_of_cut [10,15,17] fn_slices_pdqsortOrdered_int mixm (by simp) fun e _ hst=>W_start ?_
 unfold ir_slices_pdqsortOrdered_int
 simp only [cutAt,List.contains_cons,List.contains_nil,Nat.reduceBEq,Bool.or_false,Bool.or_true,Bool.true_or,Bool.false_or,cond_true,cond_false]
 refine sW ?_
 refine W_loopF mixm (α:=Unit) [1,2,3,8,9] (fun _=>True) (fun _=>[(1,vI 0),(2,vI xs.length),(3,vI lim),(8,vB true),(9,vB true)]) (fun _=>[(0,.arr 1 (xs.map vI) false)]) (fun _=>0) () trivial ?_ fun q hq=>?_
 ·exact .oA [(0,some 0)] []
 simp only [tZ,↓un_u,simprocAttr,decide_eq_true_eq,decide_eq_false_iff_not,hw1]
 refine ⟨fun h8=>?_,fun h8=>absurd (show (xs.length:Int)≤12 by omega) h8⟩
 refine C1.upd 0 1 _ _ hin (by rfl) (by apply imXs_map;intro _;exact ⟨rfl,rfl⟩) (by apply imXs_map;intro _;exact ⟨rfl,rfl⟩) (updT_int _ _ (by rfl)) (by rfl) ?_
 refine sW ?_
 exact .oA [(0,some 0)] []
theorem c_slices_Sort_int (xs:List Int) (hl:xs.length≤12):∃ ys,(ys.Perm xs∧Srt ltI ys 0 xs.length)∧
 Spc Tryz.prog F_slices_Sort_int [.asl 0 xs.length] [(0,.arr 1 (xs.map vI) false)] (.tup []) [(0,.arr 1 (ys.map vI) false)]:=by
 obtain ⟨lim,hlim,hs⟩:=c_math_bits_Len xs.length (by omega)
 refine ⟨insS ltI xs 0 xs.length,⟨(insS_sw ltI xs (Nat.zero_le _) (Nat.le_refl _)).perm,insS_srt ltI_ord xs (Nat.zero_le _) (Nat.le_refl _)⟩,?_⟩
 have hu:IntKind.u64.wrap (xs.length:Int) = (xs.length:Int):=by rw [IntKind.wrap_u64];omega
 refine spec_of_ir fn_slices_Sort_int mixm (by simp) fun e _ hst=>W_start ?_
 unfold ir_slices_Sort_int
 simp only [tZ,↓un_u,simprocAttr,hu]
 refine C1.im hs (by rfl) (by rfl) ?_
 refine sW ?_
 refine C1.upd 0 1 _ _ (c_slices_pdqS_int xs lim hl) (by rfl) (by apply imXs_map;intro _;exact ⟨rfl,rfl⟩) (by apply imXs_map;intro _;exact ⟨rfl,rfl⟩) (updT_int _ _ (by rfl)) (by rfl) ?_
 refine sW ?_
 exact .oA [(0,some 0)] []
theorem gd_drop_int {A l:List Int} {m j:Nat} (h:A.drop m = l.drop m) (hj:m≤j):gd A j = gd l j:=by
 have h1:(A.drop m).getD (j - m) default = (l.drop m).getD (j - m) default:=by rw [h]
 simp only [List.getD_eq_getElem?_getD,List.getElem?_drop] at h1
 rw [show m + (j - m) = j by omega] at h1
 simpa [gd,List.getD_eq_getElem?_getD] using h1
theorem c_slices_Compact_int (l:List Int) (hl:l.length < 2305843009213693952) :
 Spc Tryz.prog F_slices_Compact_int [.vw 0 l.length 0 l.length] [(0,.arr 1 (l.map vI) false)] (.asl 1 (cptN eqI2 l l.length).length) [(0,.dead),(1,.arr 1 ((cptN eqI2 l l.length).map vI) false)]:=by
 refine spec_of_ir fn_slices_Compact_int mixm (by simp) fun e _ hst=>W_start ?_
 unfold ir_slices_Compact_int
 refine sW ?_
 have hfull:∀ j,j≤l.length→(∀ i,0 < i→i < j→eqI2 (gd l i) (gd l (i - 1)) = false)→cptN eqI2 l j = l.take j:=by
  intro j
  induction j with
  | zero=>intro _ _;rfl
  | succ j ih=>
    intro h1 h2
    rw [cptN,ih (by omega) (fun i h3 h4=>h2 i h3 (by omega)),take_snoc (by omega),if_neg ?_,gd_get (by omega)]
    intro e
    rw [h2 j e.1 (by omega)] at e
    exact absurd e.2 (by simp)
 have hdone:∀ e:Env,True:=fun _=>trivial
 simp only [tZ,↓un_u,simprocAttr,decide_eq_true_eq,decide_eq_false_iff_not]
 refine ⟨fun h=>?_,fun h=>?_⟩
 ·have hc:cptN eqI2 l l.length = l:=by rw [hfull l.length (Nat.le_refl _) (fun i h1 h2=>by omega),List.take_length]
  rw [hc]
  refine .cutv 1 rfl (by simp) rfl (by simp) ?_
  simp only [cutSt,List.length_map,List.take_of_length_le (show (l.map vI).length≤l.length by simp)]
  exact .oA [(0,some 0),(1,some 1)] []
 refine W_loopF mixm (α:=Nat) [3] (fun k=>1≤k∧k≤l.length∧∀ i,0 < i→i < k→eqI2 (gd l i) (gd l (i - 1)) = false) (fun k=>[(3,vI k)]) (fun k=>[(0,.arr 1 (l.map vI) false)]) (fun k=>l.length - k) 1 ⟨Nat.le_refl _,by omega,fun i h1 h2=>by omega⟩ ?_ fun k hk=>?_
 ·exact .oA [(0,some 0)] []
 obtain ⟨k1,k2,k3⟩:=hk
 simp only [tZ,↓un_u,simprocAttr,decide_eq_true_eq,decide_eq_false_iff_not]
 refine ⟨fun h4=>?_,fun h4=>?_⟩
 ·have hkl:k < l.length:=by omega
  have hwp:IntKind.i64.wrap ((k:Int) - 1) = ((k - 1:Nat):Int):=by rw [IntWalk.i64_in _ (by omega)];omega
  have hws:=i64_succ (i:=k) (by omega)
  simp only [tZ,↓un_u,simprocAttr,hwp,Int.toNat_natCast,Nat.zero_add,Nat.add_zero,gdT_int hkl,gdT_int (show k - 1 < l.length by omega),cellT_int]
  refine ⟨by omega,by omega,by omega,by omega,by kernel_rfl,fun h5=>?_,fun h5=>?_⟩
  ·have hFk:cptN eqI2 l (k + 1) = l.take k:=by
    rw [cptN,if_pos ⟨by omega,h5⟩,List.append_nil,hfull k k2 k3]
   have hF0:(cptN eqI2 l (k + 1)).length = k:=by rw [hFk,List.length_take];omega
   refine ⟨by omega,?_⟩
   refine W_loopF mixm (α:=List Int×Nat) [3,5] (fun q=>q.1.length = l.length∧1≤q.2∧k + q.2≤l.length∧(cptN eqI2 l (k + q.2)).length < k + q.2∧q.1.take (cptN eqI2 l (k + q.2)).length = cptN eqI2 l (k + q.2)∧q.1.drop (k + q.2 - 1) = l.drop (k + q.2 - 1)) (fun q=>[(3,vI (cptN eqI2 l (k + q.2)).length),(5,vI q.2)]) (fun q=>[(0,.arr 1 (q.1.map vI) false)]) (fun q=>l.length - q.2) (l,1) ⟨rfl,Nat.le_refl _,by dsimp only;omega,by dsimp only;omega,by dsimp only;rw [hF0,hFk],rfl⟩ ?_ fun q hq=>?_
   ·rw [show (l,1).2 = 1 from rfl,hF0]
    exact .oA [(0,some 0)] []
   obtain ⟨A,q⟩:=q
   obtain ⟨g1,g2,g3,g4,g5,g6⟩:=hq
   dsimp only at g1 g2 g3 g4 g5 g6
   dsimp only
   simp only [tZ,↓un_u,simprocAttr,decide_eq_true_eq,decide_eq_false_iff_not]
   refine ⟨g1,fun h6=>?_,fun h6=>?_⟩
   ·have hkq:k + q < l.length:=by omega
    have hwq:IntKind.i64.wrap ((q:Int) - 1) = ((q - 1:Nat):Int):=by rw [IntWalk.i64_in _ (by omega)];omega
    have hwq1:=i64_succ (i:=q) (by omega)
    have hwF:=i64_succ (i:=(cptN eqI2 l (k + q)).length) (by omega)
    have ha1:gd A (k + q) = gd l (k + q):=gd_drop_int g6 (by omega)
    have ha2:gd A (k + (q - 1)) = gd l (k + q - 1):=by rw [show k + (q - 1) = k + q - 1 by omega];exact gd_drop_int g6 (Nat.le_refl _)
    have hlF:=cptN_le eqI2 l (k + q)
    have hFs:cptN eqI2 l (k + (q + 1)) = cptN eqI2 l (k + q) ++ (if eqI2 (gd l (k + q)) (gd l (k + q - 1)) = true then [] else [gd l (k + q)]):=by
     rw [show k + (q + 1) = (k + q) + 1 by omega,cptN]
     by_cases e:eqI2 (gd l (k + q)) (gd l (k + q - 1)) = true
     ·rw [if_pos ⟨by omega,e⟩,if_pos e]
     ·rw [if_neg (fun h=>e h.2),if_neg e]
    simp only [tZ,↓un_u,simprocAttr,hwq,Int.toNat_natCast,List.length_map,gdT_int (show k + q < A.length by omega),gdT_int (show k + (q - 1) < A.length by omega),cellT_int,ha1,ha2]
    refine ⟨by omega,by omega,by omega,by omega,by kernel_rfl,fun h7=>?_,fun h7=>?_⟩
    ·have hne:¬ eqI2 (gd l (k + q)) (gd l (k + q - 1)) = true:=by
      intro e
      have e2:((gd l (k + q)) == (gd l (k + q - 1))) = true:=e
      first | (rw [e2] at h7;cases h7) | (rw [bne,e2] at h7;cases h7)
     rw [if_neg hne] at hFs
     simp only [tZ,↓un_u,simprocAttr,Int.toNat_natCast,List.length_map,gdT_int (show (cptN eqI2 l (k + q)).length < A.length by omega),replT_int,setT_int,ha1,hwF]
     refine ⟨by omega,by omega,by omega,by omega,(A.set (cptN eqI2 l (k + q)).length (gd l (k + q)),q + 1),⟨?_,by dsimp only;omega,by dsimp only;omega,?_,?_,?_⟩,by dsimp only;omega,?_⟩
     ·dsimp only;rw [List.length_set];exact g1
     ·dsimp only;rw [hFs,List.length_append];simp;omega
     ·dsimp only
      rw [hFs,List.length_append,List.length_cons,List.length_nil,Nat.zero_add,take_snoc (by rw [List.length_set];omega),List.take_set_of_le (Nat.le_refl _),g5,List.getElem_set_self]
     ·dsimp only
      rw [show k + (q + 1) - 1 = (k + q - 1) + 1 by omega,List.drop_set_of_lt (by omega),← List.drop_drop,← List.drop_drop,g6]
     ·dsimp only
      rw [hwq1,hFs,List.length_append,List.length_cons,List.length_nil,Nat.zero_add]
      exact .oA [(0,some 0)] []
    ·have heq:eqI2 (gd l (k + q)) (gd l (k + q - 1)) = true:=by
      show ((gd l (k + q)) == (gd l (k + q - 1))) = true
      simpa using h7
     rw [if_pos heq,List.append_nil] at hFs
     refine ⟨(A,q + 1),⟨g1,by dsimp only;omega,by dsimp only;omega,by dsimp only;rw [hFs];omega,by dsimp only;rw [hFs];exact g5,?_⟩,by dsimp only;omega,?_⟩
     ·dsimp only
      rw [show k + (q + 1) - 1 = (k + q - 1) + 1 by omega,← List.drop_drop,← List.drop_drop,g6]
     ·dsimp only
      rw [hwq1,hFs]
      exact .oA [(0,some 0)] []
   ·have hkq:k + q = l.length:=by omega
    rw [hkq] at g4 g5
    rw [hkq]
    generalize cptN eqI2 l l.length = F at *
    simp only [tZ,↓un_u,simprocAttr,List.length_map,Int.toNat_natCast,g1,List.length_take,List.length_drop,List.length_replicate]
    refine ⟨by omega,by omega,by omega,?_⟩
    refine .cutv 1 rfl (by simp;omega) rfl (by simp;omega) ?_
    have hcut:(((A.map vI).take F.length ++ List.replicate (l.length - F.length) (T.v (Value.int .i64 0)) ++ (A.map vI).drop (F.length + (l.length - F.length))).take F.length) = F.map vI:=by
     rw [List.append_assoc,List.take_append_of_le_length (by rw [List.length_take,List.length_map];omega),List.take_take,Nat.min_self,← List.map_take,g5]
    simp only [Nat.sub_zero,Nat.zero_add,cutSt,List.append_assoc] at hcut ⊢
    rw [hcut]
    exact .oA [(0,some 0),(1,some 1)] []
  ·refine ⟨k + 1,⟨by omega,by omega,fun i h6 h7=>?_⟩,by omega,?_⟩
   ·by_cases e:i = k
    ·subst e;exact h5
    ·exact k3 i h6 (by omega)
   ·rw [hws]
    exact .oA [(0,some 0)] []
 ·obtain rfl:k = l.length:=by omega
  have hc:cptN eqI2 l l.length = l:=by rw [hfull l.length (Nat.le_refl _) k3,List.take_length]
  rw [hc]
  refine .cutv 1 rfl (by simp) rfl (by simp) ?_
  simp only [cutSt,List.length_map,List.take_of_length_le (show (l.map vI).length≤l.length by simp)]
  exact .oA [(0,some 0),(1,some 1)] []
end Go.Proofs
set_option linter.unusedSimpArgs false
set_option linter.unusedVariables false
namespace Go.Proofs
open Go Go.TL
set_option maxRecDepth 4000
set_option maxHeartbeats 8000000
open So
def setI (l:List Int):List Int:=l.foldl (insU ltI eqI2) []
def keysL (c:Chg):List Int:=c.gone ++ (c.rows.filter fun r=>decide (0 < r.length)).map hd
def staleC (c:Chg) (dep:List Int):Bool:=dep.any fun n=>(setI (keysL c)).contains n
theorem c_slices_CloneO_int (l:List Int) (hl:l.length * 8≤140737488355328):Spc Tryz.prog F_slices_Clone_int [vIs l] [] (.asl 0 l.length) [(0,.arr 1 (l.map vI) false)]:=by
 refine spec_of_ir fn_slices_Clone_int mixm (by simp) fun e _ hst=>W_start ?_
 unfold ir_slices_Clone_int
 refine sW ?_
 refine ⟨fun h=>?_,?_⟩
 ·have:l = []:=by
   simpa using h
  subst this
  exact .oA [(0,none)] []
 ·refine ⟨by omega,?_⟩
  exact .oA [(0,some 16384)] []
theorem c_refresh_set (l:List Int) (hl:l.length≤12):Spc Tryz.prog F_refresh_set [.asl 0 l.length] [(0,.arr 1 (l.map vI) false)] (.asl 1 (setI l).length) [(0,.dead),(1,.arr 1 ((setI l).map vI) false)]:=by
 obtain ⟨ys,⟨hp,hso⟩,hsc⟩:=c_slices_Sort_int l hl
 have hpl:=hp.length_eq
 rw [← hpl] at hso
 have hns:cptN eqI2 ys ys.length = setI l:=cpt_ins ltI_ord ltI_tot ltI_trans eqI2_iff hp hso
 have hcm:=c_slices_Compact_int ys (by omega)
 refine spec_of_ir fn_refresh_set mixm (by simp) fun e _ hst=>W_start ?_
 unfold ir_refresh_set
 refine sW ?_
 refine C1.upd 0 1 _ _ hsc (by rfl) (by apply imXs_map;intro _;exact ⟨rfl,rfl⟩) (by apply imXs_map;intro _;exact ⟨rfl,rfl⟩) ⟨by simp [ltA,ltC,ltC0,TL.get],trivial⟩ (by rfl) ?_
 refine sW ?_
 rw [← hpl]
 refine C1.cutback 0 12292 1 [] hcm (by rfl) (by apply imXs_map;intro _;exact ⟨rfl,rfl⟩) (by apply imXs_map;intro _;exact ⟨rfl,rfl⟩) (by apply noA_map;intro _;rfl) (by rfl) ?_ (by rfl) ?_
 ·all_goals (try exact clA)
 refine sW ?_
 rw [hns]
 exact .oA [(0,some 0),(1,some 12292)] []
def keysT (c:Chg) (i:Nat):List Int:=c.gone ++ ((c.rows.take i).filter fun r=>decide (0 < r.length)).map hd
theorem keysT_zero (c:Chg):keysT c 0 = c.gone:=by simp [keysT]
theorem keysT_all (c:Chg):keysT c c.rows.length = keysL c:=by rw [keysT,List.take_length];rfl
theorem keysT_succ {c:Chg} {i:Nat} (hi2:i < c.rows.length):keysT c (i + 1) = keysT c i ++ if 0 < c.rows[i].length then [hd c.rows[i]] else []:=by
 unfold keysT
 rw [take_snoc hi2,List.filter_append,List.map_append,List.filter_cons,List.filter_nil,List.append_assoc]
 congr 2
 by_cases h:0 < c.rows[i].length
 ·rw [if_pos (by simpa using h),if_pos h];rfl
 ·rw [if_neg (by simpa using h),if_neg h];rfl
theorem keysT_len (c:Chg) (i:Nat):(keysT c i).length≤c.gone.length + c.rows.length:=by
 unfold keysT
 rw [List.length_append,List.length_map]
 have:=List.length_filter_le (fun r:List Int=>decide (0 < r.length)) (c.rows.take i)
 rw [List.length_take] at this
 omega
theorem c_refresh_Keys (c:Chg) (hg:c.gone.length + c.rows.length≤12):Spc Tryz.prog F_refresh_Keys [chgT c] [] (vIs (setI (keysL c))) []:=by
 have hcl:=c_slices_CloneO_int c.gone (by omega)
 refine spec_of_ir fn_refresh_Keys mixm (by simp) fun e _ hst=>W_start ?_
 unfold ir_refresh_Keys
 refine sW ?_
 refine C1.fresh 8200 hcl (by rfl) (by apply imXs_map;intro _;exact ⟨rfl,rfl⟩) (by rfl) ?_
 refine sW ?_
 refine W_loopF mixm (α:=Nat) [3,12] (fun i=>i≤c.rows.length) (fun i=>[(3,.asl 1 (keysT c i).length),(12,vI i)]) (fun i=>[(1,.arr 1 ((keysT c i).map vI) false)]) (fun i=>c.rows.length - i) 0 (by omega) ?_ fun i hi=>?_
 ·rw [keysT_zero]
  exact .oA [(1,some 8200)] []
 have hll:=keysT_len c i
 refine sD ?_
 refine ⟨fun h2=>?_,fun h2=>?_⟩
 ·have hi2:i < c.rows.length:=by omega
  have hwi:=i64_succ (i:=i) (by omega)
  have hs:=keysT_succ hi2
  simp only [tZ,↓un_u,simprocAttr,Int.toNat_natCast,getD_mapT hi2,gt_iff_lt,tD]
  refine ⟨by omega,fun h3=>?_,fun h3=>?_⟩
  ·have hgi:=getD_hd (show 0 < c.rows[i].length by omega)
   rw [if_pos (by omega)] at hs
   have hsl:=congrArg List.length hs
   simp only [List.length_append,List.length_cons,List.length_nil] at hsl
   simp only [tZ,↓un_u,simprocAttr,hgi,hwi]
   refine ⟨by omega,by omega,i + 1,by omega,by omega,?_⟩
   rw [hs]
   exact .oA [(1,some 1)] []
  ·rw [if_neg (by omega),List.append_nil] at hs
   simp only [tZ,↓un_u,simprocAttr,hwi]
   refine ⟨i + 1,by omega,by omega,?_⟩
   rw [hs]
   exact .oA [(1,some 1)] []
 ·have hil:i = c.rows.length:=by omega
  rw [hil,keysT_all] at hll ⊢
  refine C1.cutback 1 36868 1 [] (c_refresh_set (keysL c) (by omega)) (by rfl) (by apply imXs_map;intro _;exact ⟨rfl,rfl⟩) (by apply imXs_map;intro _;exact ⟨rfl,rfl⟩) (by apply noA_map;intro _;rfl) (by rfl) ?_ (by rfl) ?_
  ·all_goals (try exact clA)
  refine sW ?_
  exact .oA [] [36868]
theorem c_refresh_Stale_1 (K:List Int) (hK:K.length < 4611686018427387904) (n:Int):Spc Tryz.prog F_refresh_Stale_1 [vI n,.ip [vIs K]] [] (vB (K.contains n)) []:=by
 refine spec_of_ir fn_refresh_Stale_1 mixm (by simp) fun e _ hst=>W_start ?_
 unfold ir_refresh_Stale_1
 refine sW ?_
 refine C1.im (c_slices_Contains_int K n hK) (by rfl) (by rfl) ?_
 refine sW ?_
 exact .oA [] []
theorem insF_len:∀ (l m:List Int),(l.foldl (insU ltI eqI2) m).length≤m.length + l.length
 | [],m=>by simp
 | x :: l,m=>by
   rw [List.foldl_cons,List.length_cons]
   have h1:=insF_len l (insU ltI eqI2 m x)
   have h2:=insU_len (lt:=ltI) (eq:=eqI2) (l:=m) (v:=x)
   omega
theorem keys_len (c:Chg):(keysL c).length≤c.gone.length + c.rows.length:=by
 unfold keysL
 rw [List.length_append,List.length_map]
 have:=List.length_filter_le (fun r:List Int=>decide (0 < r.length)) c.rows
 omega
theorem set_len (l:List Int):(setI l).length≤l.length:=by
 have:=insF_len l []
 simpa [setI] using this
theorem c_refresh_Stale (c:Chg) (dep:List Int) (hg:c.gone.length + c.rows.length≤12) (hd1:dep.length < 4611686018427387904):Spc Tryz.prog F_refresh_Stale [chgT c,vIs dep] [] (vB (staleC c dep)) []:=by
 have hkl:=keys_len c
 have hsl:=set_len (keysL c)
 have hCF:=c_slices_ContainsFunc_int (fun n=>(setI (keysL c)).contains n) F_refresh_Stale_1 [.ip [vIs (setI (keysL c))]] rfl dep (fun n _=>c_refresh_Stale_1 _ (by omega) n) hd1
 refine spec_of_ir fn_refresh_Stale mixm (by simp) fun e _ hst=>W_start ?_
 unfold ir_refresh_Stale
 refine sW ?_
 refine C1.im (c_refresh_Keys c hg) (by rfl) (by rfl) ?_
 refine sW ?_
 refine C1.lend [8200] hCF ?_ (by rfl) (by rfl) ?_
 ·all_goals (try simp only [tL,simprocAttr,List.map_append,List.map_cons,List.map_nil,List.cons_append,List.nil_append])
  all_goals (try (repeat' (first | exact ltXs_nil | (apply ltXs_map;intro _;exact ⟨rfl,rfl⟩) | (apply imXs_map;intro _;exact ⟨rfl,rfl⟩) | with_reducible apply imXs_append | with_reducible refine imXs_cons ⟨rfl,rfl⟩ ?_ | exact imXs_nil | with_reducible apply ltXs_append | with_reducible refine ltXs_cons ⟨rfl,rfl,?_⟩ ?_ | with_reducible apply And.intro | exact ltCs_im rfl | exact ltCs_im (by assumption) | (refine ⟨⟨?_,rfl,?_,rfl,?_⟩,trivial⟩ <;> first | (simp;done) | (apply imXs_map;intro _;exact ⟨rfl,rfl⟩)) | trivial | rfl | (rw [i64_succ (by omega)]) | omega)))
  simp only [ltP]
  exact ⟨rfl,by omega,rfl,imXs_cons ⟨rfl,rfl⟩ imXs_nil⟩
 refine sW ?_
 exact .oA [] []
end Go.Proofs
