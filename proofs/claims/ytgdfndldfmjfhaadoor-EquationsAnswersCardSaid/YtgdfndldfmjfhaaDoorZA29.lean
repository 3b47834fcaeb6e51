import Derived.Test.YtgdfndldfmjfhaaDoorAw29
import Derived.Test.YtgdfndldfmjfhaaDoorY229
import Derived.Test.YtgdfndldfmjfhaaDoorY329
import Derived.Test.YtgdfndldfmjfhaaDoorU29
import Derived.Test.YtgdfndldfmjfhaaDoorMod
set_option linter.unusedSimpArgs false
set_option linter.unusedVariables false
namespace Go.Proofs
open Go Go.TL
open Go.TL.So
set_option maxRecDepth 4000
theorem modI_lt (n:Int) {m:Nat} (h:0 < m):∃ k:Nat,modI n m = k∧k < m:=by
 have h1:=Int.emod_nonneg n (b:=(m:Int)) (by omega)
 have h2:=Int.emod_lt_of_pos n (b:=(m:Int)) (by omega)
 refine ⟨(n % m).toNat,?_,by omega⟩
 rw [modI,if_neg (by omega)]
 omega
theorem redF_mem:∀ {l o r:List Eqn},redF l o = some r→(∀ p∈r,p∈o∨p∈l)∧r.length≤o.length + l.length
 | [],o,r,h=>by cases h;exact ⟨fun p hp=>.inl hp,by simp⟩
 | q :: l,o,r,h=>by
   rw [redF] at h
   cases h1:redS o q with
   | none=>rw [h1] at h;cases h
   | some o2=>
     rw [h1] at h
     obtain ⟨h2,h3⟩:=redF_mem h
     have h4:=redS_len h1
     refine ⟨fun p hp=>?_,by rw [List.length_cons];omega⟩
     rcases h2 p hp with h5 | h5
     ·unfold redS at h1
      split at h1
      ·cases h1
      ·split at h1
       ·cases h1;exact .inl h5
       ·cases h1
        rcases List.mem_append.1 h5 with h5 | h5
        ·exact .inl h5
        ·exact .inr (List.mem_cons.2 (.inl (List.mem_singleton.1 h5)))
     ·exact .inr (List.mem_cons_of_mem _ h5)
theorem redA_sm (k:Int) (l:List Eqn):(∀ p∈(redA k l).1,p∈l)∧(redA k l).1.length≤l.length:=by
 unfold redA
 split
 ·simp
 ·cases h:redF l [] with
  | none=>simp
  | some r=>
    obtain ⟨h1,h2⟩:=redF_mem h
    exact ⟨fun p hp=>by simpa using h1 p hp,by simpa using h2⟩
theorem allA_sm (sz:List Int) (l:List Rls) (hr:∀ r∈l,RlsSm r):(∀ x∈(allA sz l).1,x.cells.length≤48)∧(allA sz l).1.length≤l.length * 1000000:=by
 unfold allA
 split
 ·simp
 ·rename_i h
  have h:=Classical.byContradiction h
  exact ⟨tell_cells (rlsC_mem h).1,tells_len hr⟩
theorem ltXs_set {st:Sto} {ρ:Ren} {B:List Nat} {k:Nat} {x y:T} (h:x.cells.length = k∧y.cells.length = k∧ltCs st ρ B x.cells y.cells) {a b:List T} (i:Nat) (h2:ltXs st ρ B k a b):ltXs st ρ B k (a.set i x) (b.set i y):=by
 refine ⟨by simp [h2.1],fun j u v hu hv=>?_⟩
 rw [List.getElem?_set] at hu hv
 by_cases e:i = j
 ·subst e
  simp only [if_true] at hu hv
  split at hu
  ·split at hv
   ·cases hu;cases hv;exact h
   ·cases hv
  ·cases hu
 ·rw [if_neg e] at hu hv
  exact h2.2 j u v hu hv
def rlsBig (r:Rls):Prop:=r.vals.length≤100∧r.gs.length≤10∧∀ g∈r.gs,g.length≤20
theorem big_sm {r:Rls} (h:rlsBig r):RlsSm r:=⟨by have:=h.2.1;omega,fun g hg=>by have:=h.2.2 g hg;omega,by have:=h.1;omega⟩
theorem le_trans {e:Env} {s s' s2:St} (h1:Le e s s') (h2:Le e s' s2):Le e s s2:=fun ι a w hR=>by
 obtain ⟨ι',hR'⟩:=h1 ι a w hR
 exact h2 ι' a w hR'
theorem cellsOf_bd {c:Nat}:∀ {l:List Eqn},(∀ x∈l,x.cells.length≤c)→(cellsOf l).length≤l.length * c
 | [],_=>by simp [cellsOf]
 | x :: l,h=>by
   have h1:=h x (by simp)
   have h2:=cellsOf_bd (l:=l) fun y hy=>h y (List.mem_cons_of_mem _ hy)
   have:cellsOf (x :: l) = x.cells ++ cellsOf l:=by simp [cellsOf]
   rw [this,List.length_append,List.length_cons,Nat.succ_mul]
   omega
theorem tchA_len (k:Int) (l:List Eqn):(tchA k l).length≤(cellsOf l).length:=by
 have h1:=insU_flen (lt:=ltI) (eq:=eqI2) ((cellsOf l).filter (inC k)) (l:=[])
 have h2:=List.length_filter_le (inC k) (cellsOf l)
 rw [List.length_nil,Nat.zero_add] at h1
 exact Nat.le_trans h1 h2
set_option maxHeartbeats 4000000 in
theorem c_law29_EquationsAnswers (raw:List Int) (list:List Rls) (q:List Eqn) (table:List Int) (n:Int) (l:List UInt8) (h1:raw.length < 4611686018427387904) (h2:list.length < 4611686018427387904)
 (h3:∀ r∈list,r.vals.length < 4611686018427387904∧r.gs.length < 4611686018427387904∧∀ g∈r.gs,g.length < 4611686018427387904) (h4:q.length < 4611686018427387904) (h5:∀ x∈q,x.cells.length < 4611686018427387904) (h6:table.length < 4611686018427387904) :
 Spc Tryd.prog F_law29_EquationsAnswers [spT raw,vRs list,vQs q,vIs table,vI n,vL l] [] (vB true) []:=by
 refine spec_of_cut [29] fn_law29_EquationsAnswers mixm (by simp) fun e _ hst=>W_start ?_
 unfold ir_law29_EquationsAnswers
 simp only [cutAt,List.contains_cons,List.contains_nil,Nat.reduceBEq,Bool.or_false,Bool.or_true,Bool.true_or,Bool.false_or,cond_true,cond_false]
 refine sW ?_
 refine ⟨fun h=>?_,fun h=>?_⟩
 ·refine C1.im c_law29_awake (by rfl) (by rfl) ?_
  refine sW ?_
  refine .of [] [] rfl (by first | rfl | (rw [hst];rfl)) ?_ ?_
  all_goals (try exact clA)
 have hb:raw.length≤10∧list.length≤30∧q.length≤40∧table.length≤100:=by
  simp only [Bool.or_eq_false_iff,decide_eq_false_iff_not] at h
  omega
 clear h
 refine W_loopF mixm (α:=Nat) [67] (fun i=>i≤list.length∧(∀ r∈list.take i,rlsBig r)) (fun i=>[(67,vI i)]) (fun i=>[(4096,.arr 1 [spT raw] false)]) (fun i=>list.length - i) 0 ⟨by omega,?_⟩ ?_ fun i hi=>?_
 ·intro r hr;simp at hr
 ·refine .of [(4096,some 4096)] [] rfl (by first | rfl | (rw [hst];rfl)) ?_ ?_
  all_goals (try exact clA)
 simp only [tl,tl2,tl4,↓un_u,isCallR,entX,argFr,ret,retI,retB,intT,unT,endR,ressR,resR,tupT,bslR,boxR,lenAll,↓reduceIte,Nat.reduceEqDiff,Nat.reduceAdd,Nat.reduceMul,Nat.reduceLT,Nat.reduceLeDiff,reduceCtorEq,Int.reduceLE,Int.reduceLT,ne_eq,Int.reduceEq,not_false_eq_true,decide_true,decide_false,Int.reduceToNat,tl3,Int.reduceBNe,Int.reduceBEq,rmK,rm1,not_true_eq_false,decide_eq_true_eq,decide_eq_false_iff_not]
 refine ⟨fun h=>?_,fun h=>?_⟩
 ·have hri:=h3 _ (List.getElem_mem (show i < list.length by omega))
  have hi2:i < list.length:=by omega
  have hwi:=i64_succ (i:=i) (by omega)
  simp only [tl,tl2,tl4,↓un_u,isCallR,entX,argFr,ret,retI,retB,intT,unT,endR,ressR,resR,tupT,bslR,boxR,lenAll,↓reduceIte,Nat.reduceEqDiff,Nat.reduceAdd,Nat.reduceMul,Nat.reduceLT,Nat.reduceLeDiff,reduceCtorEq,Int.reduceLE,Int.reduceLT,ne_eq,Int.reduceEq,not_false_eq_true,decide_true,decide_false,Int.reduceToNat,tl3,Int.reduceBNe,Int.reduceBEq,rmK,rm1,not_true_eq_false,Int.toNat_natCast,getD_mapT hi2,hwi]
  have hgi:(list.map rlsT).getD i .junk = rlsT list[i]:=getD_mapT hi2
  have hts:=take_snoc hi2
  generalize list[i] = r at *
  refine ⟨by omega,fun _=>by omega,fun h7=>?_,fun h7=>?_⟩
  ·refine C1.im c_law29_awake (by rfl) (by rfl) ?_
   refine sW ?_
   refine .of [] [] rfl (by first | rfl | (rw [hst];rfl)) ?_ ?_
   all_goals (try exact clA)
  have hv:r.vals.length≤100∧r.gs.length≤10:=by
   simp only [Bool.or_eq_false_iff,decide_eq_false_iff_not] at h7
   omega
  refine ⟨by omega,?_⟩
  refine W_loopF mixm (α:=Nat) [95] (fun j=>j≤r.gs.length∧(∀ g∈r.gs.take j,g.length≤20)) (fun j=>[(95,vI j)]) (fun j=>[(4096,.arr 1 [spT raw] false)]) (fun j=>r.gs.length - j) 0 ⟨by omega,?_⟩ ?_ fun j hj=>?_
  ·intro g hg;simp at hg
  ·refine .of [(4096,some 4096)] [] rfl (by first | rfl | (rw [hst];rfl)) ?_ ?_
   all_goals (try exact clA)
  simp only [tl,tl2,tl4,↓un_u,isCallR,entX,argFr,ret,retI,retB,intT,unT,endR,ressR,resR,tupT,bslR,boxR,lenAll,↓reduceIte,Nat.reduceEqDiff,Nat.reduceAdd,Nat.reduceMul,Nat.reduceLT,Nat.reduceLeDiff,reduceCtorEq,Int.reduceLE,Int.reduceLT,ne_eq,Int.reduceEq,not_false_eq_true,decide_true,decide_false,Int.reduceToNat,tl3,Int.reduceBNe,Int.reduceBEq,rmK,rm1,not_true_eq_false,decide_eq_true_eq,decide_eq_false_iff_not]
  refine ⟨fun h=>?_,fun h=>?_⟩
  ·have hj2:j < r.gs.length:=by omega
   have hwj:=i64_succ (i:=j) (by omega)
   simp only [tl,tl2,tl4,↓un_u,isCallR,entX,argFr,ret,retI,retB,intT,unT,endR,ressR,resR,tupT,bslR,boxR,lenAll,↓reduceIte,Nat.reduceEqDiff,Nat.reduceAdd,Nat.reduceMul,Nat.reduceLT,Nat.reduceLeDiff,reduceCtorEq,Int.reduceLE,Int.reduceLT,ne_eq,Int.reduceEq,not_false_eq_true,decide_true,decide_false,Int.reduceToNat,tl3,Int.reduceBNe,Int.reduceBEq,rmK,rm1,not_true_eq_false,Int.toNat_natCast,getD_mapT hj2,hwj,hgi]
   have hwj:=i64_succ (i:=j) (by omega)
   refine ⟨by omega,by omega,fun h8=>?_,fun h8=>?_⟩
   ·refine C1.im c_law29_awake (by rfl) (by rfl) ?_
    refine sW ?_
    refine .of [] [] rfl (by first | rfl | (rw [hst];rfl)) ?_ ?_
    all_goals (try exact clA)
   ·refine ⟨j + 1,⟨by omega,?_⟩,by omega,?_⟩
    ·rw [take_snoc hj2]
     intro g hg
     rcases List.mem_append.1 hg with hg | hg
     ·exact hj.2 g hg
     ·rw [List.mem_singleton.1 hg]
      simp only [decide_eq_false_iff_not] at h8
      omega
    ·refine .of [(4096,some 4096)] [] rfl (by first | rfl | (rw [hst];rfl)) ?_ ?_
     all_goals (try exact clA)
  ·have hj2:j = r.gs.length:=by omega
   subst hj2
   have hj3:=hj.2
   rw [List.take_length] at hj3
   refine ⟨i + 1,⟨by omega,?_⟩,by omega,?_⟩
   ·rw [hts]
    intro x hx
    rcases List.mem_append.1 hx with hx | hx
    ·exact hi.2 x hx
    ·rw [List.mem_singleton.1 hx]
     exact ⟨hv.1,hv.2,hj3⟩
   ·rw [hwi]
    refine .of [(4096,some 4096)] [] rfl (by first | rfl | (rw [hst];rfl)) ?_ ?_
    all_goals (try exact clA)
 have hil:i = list.length:=by omega
 subst hil
 have hbig:=hi.2
 rw [List.take_length] at hbig
 clear hi
 refine W_loopF mixm (α:=Nat) [114] (fun i=>i≤q.length∧(∀ x∈q.take i,x.cells.length≤60)) (fun i=>[(114,vI i)]) (fun i=>[(4096,.arr 1 [spT raw] false)]) (fun i=>q.length - i) 0 ⟨by omega,?_⟩ ?_ fun i hi=>?_
 ·intro g hg;simp at hg
 ·refine .of [(4096,some 4096)] [] rfl (by first | rfl | (rw [hst];rfl)) ?_ ?_
  all_goals (try exact clA)
 simp only [tl,tl2,tl4,↓un_u,isCallR,entX,argFr,ret,retI,retB,intT,unT,endR,ressR,resR,tupT,bslR,boxR,lenAll,↓reduceIte,Nat.reduceEqDiff,Nat.reduceAdd,Nat.reduceMul,Nat.reduceLT,Nat.reduceLeDiff,reduceCtorEq,Int.reduceLE,Int.reduceLT,ne_eq,Int.reduceEq,not_false_eq_true,decide_true,decide_false,Int.reduceToNat,tl3,Int.reduceBNe,Int.reduceBEq,rmK,rm1,not_true_eq_false,decide_eq_true_eq,decide_eq_false_iff_not]
 refine ⟨fun h=>?_,fun h=>?_⟩
 ·have hi2:i < q.length:=by omega
  have hwi:=i64_succ (i:=i) (by omega)
  simp only [tl,tl2,tl4,↓un_u,isCallR,entX,argFr,ret,retI,retB,intT,unT,endR,ressR,resR,tupT,bslR,boxR,lenAll,↓reduceIte,Nat.reduceEqDiff,Nat.reduceAdd,Nat.reduceMul,Nat.reduceLT,Nat.reduceLeDiff,reduceCtorEq,Int.reduceLE,Int.reduceLT,ne_eq,Int.reduceEq,not_false_eq_true,decide_true,decide_false,Int.reduceToNat,tl3,Int.reduceBNe,Int.reduceBEq,rmK,rm1,not_true_eq_false,Int.toNat_natCast,getD_mapT hi2,hwi]
  refine ⟨by omega,fun h8=>?_,fun h8=>?_⟩
  ·refine C1.im c_law29_awake (by rfl) (by rfl) ?_
   refine sW ?_
   refine .of [] [] rfl (by first | rfl | (rw [hst];rfl)) ?_ ?_
   all_goals (try exact clA)
  ·refine ⟨i + 1,⟨by omega,?_⟩,by omega,?_⟩
   ·rw [take_snoc hi2]
    intro g hg
    rcases List.mem_append.1 hg with hg | hg
    ·exact hi.2 g hg
    ·rw [List.mem_singleton.1 hg]
     simp only [decide_eq_false_iff_not] at h8
     omega
   ·refine .of [(4096,some 4096)] [] rfl (by first | rfl | (rw [hst];rfl)) ?_ ?_
    all_goals (try exact clA)
 have hil:i = q.length:=by omega
 subst hil
 have hqc:=hi.2
 rw [List.take_length] at hqc
 clear hi
 obtain ⟨cs,hcs⟩:∃ cs,cs = l.take 400:=⟨_,rfl⟩
 have hl:=len400 l
 rw [← hcs] at hl
 have hT:=c_made_Told cs 0 5 4 hl (by omega) (by omega) (by omega)
 obtain ⟨t1,t2,t3,t4,t5,t6,t7⟩:=toldA_ok (cs:=cs) (a:=0) (most:=5) (rel:=4) (by omega) (by omega) (by omega)
 generalize toldA cs 0 5 4 = y at *
 obtain ⟨a1,sz,t,told⟩:=y
 dsimp only at t1 t2 t3 t4 t5 t6 t7 hT
 refine C1.newdraw 90116 (c_draw_New l) rfl rfl ?_
 simp only [tl,tl2,tl4,↓un_u,isCallR,entX,argFr,ret,retI,retB,intT,unT,endR,ressR,resR,tupT,bslR,boxR,lenAll,↓reduceIte,Nat.reduceEqDiff,Nat.reduceAdd,Nat.reduceMul,Nat.reduceLT,Nat.reduceLeDiff,reduceCtorEq,Int.reduceLE,Int.reduceLT,ne_eq,Int.reduceEq,not_false_eq_true,decide_true,decide_false,Int.reduceToNat,tl3,Int.reduceBNe,Int.reduceBEq,rmK,rm1,not_true_eq_false,← hcs]
 refine C1.draw 90116 cs 0 _ hT rfl rfl rfl ?_
 refine sW ?_
 have hsmt:=rls_sm t5
 have hodd:∀ odd:List Rls,odd.length = told.length→(∀ r∈odd,RlsSm r)→∃ o2:List Rls,o2 = odd∧o2.length≤24∧∀ r∈o2,RlsSm r:=fun odd h1 h2=>⟨odd,rfl,by omega,h2⟩
 refine ⟨by omega,fun h=>?_,fun h=>?_⟩
 focus
  have h:0 < told.length:=by have:=of_decide_eq_true h;omega
  obtain ⟨k1,hk1,hk1l⟩:=modI_lt n h
  have cM1:=c_draw_Mod n told.length (by omega)
  rw [hk1] at cM1
  have cM2:=c_draw_Mod n 30 (by omega)
  have gk:=getD_mapT (f:=rlsT) hk1l
  refine C1.im cM1 (by rfl) (by rfl) ?_
  refine sW ?_
  refine C1.im cM2 (by rfl) (by rfl) ?_
  have gset:∀ X:T,((told.map rlsT).set k1 X).getD k1 T.junk = X:=fun X=>by
   rw [getD_get (by simp;omega)];simp
  have glen:∀ X:T,((told.map rlsT).set k1 X).length = told.length:=fun X=>by simp
  have hv0:0 < told[k1].vals.length:=by
   have h1:=(rlsC_mem t5).2.2 _ (List.getElem_mem hk1l)
   have h2:=h1.vw.pub
   have h3:=h1.len
   omega
  have g0:=getD_mapT (f:=vI) hv0
  have hvl:=(hsmt _ (List.getElem_mem hk1l)).vals
  simp only [tl,tl2,tl4,↓un_u,isCallR,entX,argFr,ret,retI,retB,intT,unT,endR,ressR,resR,tupT,bslR,boxR,lenAll,↓reduceIte,Nat.reduceEqDiff,Nat.reduceAdd,Nat.reduceMul,Nat.reduceLT,Nat.reduceLeDiff,reduceCtorEq,Int.reduceLE,Int.reduceLT,ne_eq,Int.reduceEq,not_false_eq_true,decide_true,decide_false,Int.reduceToNat,tl3,Int.reduceBNe,Int.reduceBEq,rmK,rm1,not_true_eq_false,Int.toNat_natCast,gk,gset,glen,List.set_set,g0,show ∀ a b:Int,repl (vI a) 0 (vI b) = vI b from fun _ _=>rfl]
  refine ⟨by omega,hk1l,by omega,hk1l,by omega,by omega,hk1l,by omega,hk1l,by omega,hv0,?_⟩
  rw [← List.map_set]
  obtain ⟨odd,ho,hol,hos⟩:=hodd (told.set k1 ⟨IntKind.i64.wrap (modI n 30 - 2),told[k1].gs,told[k1].vals.set 0 n⟩) (by simp) (fun r hr=>by
   rcases List.mem_or_eq_of_mem_set hr with hr | hr
   ·exact hsmt r hr
   ·have h1:=hsmt _ (List.getElem_mem hk1l)
    rw [hr]
    exact ⟨h1.gs,h1.g,by have:=h1.vals;simpa using this⟩)
  have hoe:odd.map rlsT = (told.map rlsT).set k1 (rlsT ⟨IntKind.i64.wrap (modI n 30 - 2),told[k1].gs,told[k1].vals.set 0 n⟩):=by rw [ho,List.map_set]
  refine W_le [(1,vRs list),(2,vQs q),(3,vIs table),(4,vI n),(6,.ptr 4096 1 0 0),(17,.ptr 94232 1 0 0),(18,vIs t),(19,vRs told),(20,vRs odd)] [(4096,.arr 1 [spT raw] false),(94232,.arr 1 [spT sz] false)] (le_trans (s':=⟨[(1,vRs list),(2,vQs q),(3,vIs table),(4,vI n),(6,.ptr 4096 1 0 0),(17,.ptr 94232 1 0 0),(18,vIs t),(19,vRs told),(20,.asl 98304 odd.length)],[(4096,.arr 1 [spT raw] false),(94232,.arr 1 [spT sz] false),(98304,.arr 3 (odd.map rlsT) false)]⟩) ?_ ?_) ?_
  ·rw [show odd.length = told.length by rw [ho];simp,hoe]
   refine .of [(4096,some 4096),(94232,some 94232),(98304,some 98304)] [114696] rfl (by first | rfl | (rw [hst];rfl)) ?_ ?_
   all_goals (try simp only [ltSto,ltO2,ltO1,ltAs,ltA,ltC,ltC0,ltC0s,ltCs,ltT,ltFr,ltS,wrOk,wrO,TL.get,hasFr,↓reduceIte,Nat.reduceEqDiff,reduceCtorEq,Option.getD_some,Option.isSome_some,List.length_map,List.length_append,List.length_cons,List.length_nil,List.append_nil,List.mem_singleton,List.mem_cons,List.not_mem_nil,and_true,true_and,and_self,imp_self,forall_const,false_implies,implies_true,true_implies,or_false,Bool.false_eq_true,Bool.true_eq_false,ImXs_nil,true_or,or_true,false_or,false_and,and_false,rmK,rm1,List.map_append,List.map_cons,List.map_nil,List.cons_append,List.nil_append])
   all_goals (try (repeat' (first | exact ltXs_nil | (apply ltXs_map;intro _;exact ⟨rfl,rfl⟩) | (apply imXs_map;intro _;exact ⟨rfl,rfl⟩) | with_reducible apply imXs_append | with_reducible refine imXs_cons ⟨rfl,rfl⟩ ?_ | exact imXs_nil | with_reducible apply ltXs_append | with_reducible refine ltXs_cons ⟨rfl,rfl,?_⟩ ?_ | with_reducible apply And.intro | exact ltCs_im rfl | exact ltCs_im (by assumption) | (refine ⟨⟨?_,rfl,?_,rfl,?_⟩,trivial⟩ <;> first | (simp;done) | (apply imXs_map;intro _;exact ⟨rfl,rfl⟩)) | trivial | rfl | (rw [i64_succ (by omega)]) | omega)))
   refine ltXs_set (k:=3) ⟨rfl,rfl,?_⟩ k1 (ltXs_map (k:=3) (f:=rlsT) (fun _=>⟨rfl,rfl⟩) told)
   show ltCs _ _ _ [vI (IntKind.i64.wrap (modI n 30 - 2)),vvIs told[k1].gs,T.asl 114696 told[k1].vals.length] [vI (IntKind.i64.wrap (modI n 30 - 2)),vvIs told[k1].gs,vIs (told[k1].vals.set 0 n)]
   simp only [ltSto,ltO2,ltO1,ltAs,ltA,ltC,ltC0,ltC0s,ltCs,ltT,ltFr,ltS,wrOk,wrO,TL.get,hasFr,↓reduceIte,Nat.reduceEqDiff,reduceCtorEq,Option.getD_some,Option.isSome_some,List.length_map,List.length_append,List.length_cons,List.length_nil,List.append_nil,List.mem_singleton,List.mem_cons,List.not_mem_nil,and_true,true_and,and_self,imp_self,forall_const,false_implies,implies_true,true_implies,or_false,Bool.false_eq_true,Bool.true_eq_false,ImXs_nil,true_or,or_true,false_or,false_and,and_false,rmK,rm1]
   exact ⟨by simp,(by apply imXs_map;intro _;exact ⟨rfl,rfl⟩)⟩
  ·refine .of [(4096,some 4096),(94232,some 94232)] [98304] rfl (by first | rfl | (rw [hst];rfl)) ?_ ?_
   all_goals (try exact clA)
  clear hoe ho
 rotate_left
 focus
  obtain ⟨odd,ho,hol,hos⟩:=hodd told rfl hsmt
  refine W_le [(1,vRs list),(2,vQs q),(3,vIs table),(4,vI n),(6,.ptr 4096 1 0 0),(17,.ptr 94232 1 0 0),(18,vIs t),(19,vRs told),(20,vRs odd)] [(4096,.arr 1 [spT raw] false),(94232,.arr 1 [spT sz] false)] ?_ ?_
  ·rw [ho]
   refine .of [(4096,some 4096),(94232,some 94232)] [98304] rfl (by first | rfl | (rw [hst];rfl)) ?_ ?_
   all_goals (try exact clA)
  clear ho
 all_goals
  refine sW ?_
  have hS10:∀ x∈[raw,sz],x.length≤10:=by
   have:=t2.len
   intro x hx;simp at hx;rcases hx with hx | hx <;> subst hx <;> omega
  have hSl:[raw,sz].length = 2:=rfl
  have hY30:∀ x∈[list,told,odd],x.length≤30∧∀ r∈x,RlsSm r:=by
   intro x hx;simp at hx;rcases hx with hx | hx | hx <;> subst hx
   ·exact ⟨by omega,fun r hr=>big_sm (hbig r hr)⟩
   ·exact ⟨by omega,hsmt⟩
   ·exact ⟨by omega,hos⟩
  have hYl:[list,told,odd].length = 3:=rfl
  refine W_loopF mixm (α:=Nat) [173] (fun i=>i≤2) (fun i=>[(173,vI i)]) (fun i=>[(94232,.arr 1 [spT sz] false),(122888,.arr 1 ([raw,sz].map spT) false)]) (fun i=>2 - i) 0 (by omega) ?_ fun i hi=>?_
  ·refine .of [(94232,some 94232),(122888,some 122888)] [] rfl (by first | rfl | (rw [hst];rfl)) ?_ ?_
   all_goals (try simp only [ltSto,ltO2,ltO1,ltAs,ltA,ltC,ltC0,ltC0s,ltCs,ltT,ltFr,ltS,wrOk,wrO,TL.get,hasFr,↓reduceIte,Nat.reduceEqDiff,reduceCtorEq,Option.getD_some,Option.isSome_some,List.length_map,List.length_append,List.length_cons,List.length_nil,List.append_nil,List.mem_singleton,List.mem_cons,List.not_mem_nil,and_true,true_and,and_self,imp_self,forall_const,false_implies,implies_true,true_implies,or_false,Bool.false_eq_true,Bool.true_eq_false,ImXs_nil,true_or,or_true,false_or,false_and,and_false,rmK,rm1,List.map_append,List.map_cons,List.map_nil,List.cons_append,List.nil_append,List.map_nil])
   all_goals (try (repeat' (first | exact ltXs_nil | (apply ltXs_map;intro _;exact ⟨rfl,rfl⟩) | (apply imXs_map;intro _;exact ⟨rfl,rfl⟩) | with_reducible apply imXs_append | with_reducible refine imXs_cons ⟨rfl,rfl⟩ ?_ | exact imXs_nil | with_reducible apply ltXs_append | with_reducible refine ltXs_cons ⟨rfl,rfl,?_⟩ ?_ | with_reducible apply And.intro | exact ltCs_im rfl | exact ltCs_im (by assumption) | (refine ⟨⟨?_,rfl,?_,rfl,?_⟩,trivial⟩ <;> first | (simp;done) | (apply imXs_map;intro _;exact ⟨rfl,rfl⟩)) | trivial | rfl | (rw [i64_succ (by omega)]) | omega)))
  generalize [raw,sz] = Sp at *
  simp only [tl,tl2,tl4,↓un_u,isCallR,entX,argFr,ret,retI,retB,intT,unT,endR,ressR,resR,tupT,bslR,boxR,lenAll,↓reduceIte,Nat.reduceEqDiff,Nat.reduceAdd,Nat.reduceMul,Nat.reduceLT,Nat.reduceLeDiff,reduceCtorEq,Int.reduceLE,Int.reduceLT,ne_eq,Int.reduceEq,not_false_eq_true,decide_true,decide_false,Int.reduceToNat,tl3,Int.reduceBNe,Int.reduceBEq,rmK,rm1,not_true_eq_false,decide_eq_true_eq,decide_eq_false_iff_not]
  refine ⟨fun g1=>?_,fun g1=>?_⟩
  ·have hi2:i < Sp.length:=by omega
   have hwi:=i64_succ (i:=i) (by omega)
   simp only [tl,tl2,tl4,↓un_u,isCallR,entX,argFr,ret,retI,retB,intT,unT,endR,ressR,resR,tupT,bslR,boxR,lenAll,↓reduceIte,Nat.reduceEqDiff,Nat.reduceAdd,Nat.reduceMul,Nat.reduceLT,Nat.reduceLeDiff,reduceCtorEq,Int.reduceLE,Int.reduceLT,ne_eq,Int.reduceEq,not_false_eq_true,decide_true,decide_false,Int.reduceToNat,tl3,Int.reduceBNe,Int.reduceBEq,rmK,rm1,not_true_eq_false,Int.toNat_natCast,getD_mapT hi2]
   have hsl:=hS10 Sp[i] (List.getElem_mem hi2)
   generalize Sp[i] = s at *
   refine ⟨⟨hSl,by omega,by omega⟩,⟨hSl,hi2⟩,?_⟩
   refine W_loopF mixm (α:=Nat) [182] (fun j=>j≤3) (fun j=>[(182,vI j)]) (fun j=>[(94232,.arr 1 [spT sz] false),(122888,.arr 1 (Sp.map spT) false),(131080,.arr 1 [spT s] false),(135180,.arr 1 ([list,told,odd].map vRs) false)]) (fun j=>3 - j) 0 (by omega) ?_ fun j hj=>?_
   ·refine .of [(94232,some 94232),(122888,some 122888),(131080,some 131080),(135180,some 135180)] [] rfl (by first | rfl | (rw [hst];rfl)) ?_ ?_
    all_goals (try simp only [ltSto,ltO2,ltO1,ltAs,ltA,ltC,ltC0,ltC0s,ltCs,ltT,ltFr,ltS,wrOk,wrO,TL.get,hasFr,↓reduceIte,Nat.reduceEqDiff,reduceCtorEq,Option.getD_some,Option.isSome_some,List.length_map,List.length_append,List.length_cons,List.length_nil,List.append_nil,List.mem_singleton,List.mem_cons,List.not_mem_nil,and_true,true_and,and_self,imp_self,forall_const,false_implies,implies_true,true_implies,or_false,Bool.false_eq_true,Bool.true_eq_false,ImXs_nil,true_or,or_true,false_or,false_and,and_false,rmK,rm1,List.map_append,List.map_cons,List.map_nil,List.cons_append,List.nil_append,List.map_nil])
    all_goals (try (repeat' (first | exact ltXs_nil | (apply ltXs_map;intro _;exact ⟨rfl,rfl⟩) | (apply imXs_map;intro _;exact ⟨rfl,rfl⟩) | with_reducible apply imXs_append | with_reducible refine imXs_cons ⟨rfl,rfl⟩ ?_ | exact imXs_nil | with_reducible apply ltXs_append | with_reducible refine ltXs_cons ⟨rfl,rfl,?_⟩ ?_ | with_reducible apply And.intro | exact ltCs_im rfl | exact ltCs_im (by assumption) | (refine ⟨⟨?_,rfl,?_,rfl,?_⟩,trivial⟩ <;> first | (simp;done) | (apply imXs_map;intro _;exact ⟨rfl,rfl⟩)) | trivial | rfl | (rw [i64_succ (by omega)]) | omega)))
   generalize [list,told,odd] = Ys at *
   simp only [tl,tl2,tl4,↓un_u,isCallR,entX,argFr,ret,retI,retB,intT,unT,endR,ressR,resR,tupT,bslR,boxR,lenAll,↓reduceIte,Nat.reduceEqDiff,Nat.reduceAdd,Nat.reduceMul,Nat.reduceLT,Nat.reduceLeDiff,reduceCtorEq,Int.reduceLE,Int.reduceLT,ne_eq,Int.reduceEq,not_false_eq_true,decide_true,decide_false,Int.reduceToNat,tl3,Int.reduceBNe,Int.reduceBEq,rmK,rm1,not_true_eq_false,decide_eq_true_eq,decide_eq_false_iff_not]
   refine ⟨fun g2=>?_,fun g2=>?_⟩
   ·have hj2:j < Ys.length:=by omega
    have hwj:=i64_succ (i:=j) (by omega)
    simp only [tl,tl2,tl4,↓un_u,isCallR,entX,argFr,ret,retI,retB,intT,unT,endR,ressR,resR,tupT,bslR,boxR,lenAll,↓reduceIte,Nat.reduceEqDiff,Nat.reduceAdd,Nat.reduceMul,Nat.reduceLT,Nat.reduceLeDiff,reduceCtorEq,Int.reduceLE,Int.reduceLT,ne_eq,Int.reduceEq,not_false_eq_true,decide_true,decide_false,Int.reduceToNat,tl3,Int.reduceBNe,Int.reduceBEq,rmK,rm1,not_true_eq_false,Int.toNat_natCast,getD_mapT hj2]
    have hyl:=hY30 Ys[j] (List.getElem_mem hj2)
    generalize Ys[j] = y at *
    obtain ⟨hy1,hy2⟩:=hyl
    refine ⟨⟨hYl,by omega,by omega⟩,⟨hYl,hj2⟩,?_⟩
    have e1:=c_equations_All s y (by omega) (by omega) hy2
    have e2:=c_ref29_All s y (by omega) (by omega) hy2
    have e3:=c_equations_Check s y (by omega) (by omega) hy2
    have e4:=c_ref29_Check s y (by omega) (by omega) hy2
    obtain ⟨am1,am2⟩:=allA_sm s y hy2
    have e5:=c_ref29_Same (allA s y).1 (by omega) (fun x hx=>by have:=am1 x hx;omega)
    refine C1.shut [] e1 ?_ (by rfl) rfl ?_
    ·all_goals (try exact clA)
    refine sW ?_
    refine C1.shut [] e2 ?_ (by rfl) rfl ?_
    ·all_goals (try exact clA)
    refine sW ?_
    refine C1.shut [] e3 ?_ (by rfl) rfl ?_
    ·all_goals (try exact clA)
    refine sW ?_
    refine C1.shut [] e4 ?_ (by rfl) rfl ?_
    ·all_goals (try exact clA)
    simp only [tl,tl2,tl4,↓un_u,isCallR,entX,argFr,ret,retI,retB,intT,unT,endR,ressR,resR,tupT,bslR,boxR,lenAll,↓reduceIte,Nat.reduceEqDiff,Nat.reduceAdd,Nat.reduceMul,Nat.reduceLT,Nat.reduceLeDiff,reduceCtorEq,Int.reduceLE,Int.reduceLT,ne_eq,Int.reduceEq,not_false_eq_true,decide_true,decide_false,Int.reduceToNat,tl3,Int.reduceBNe,Int.reduceBEq,rmK,rm1,not_true_eq_false,bne_self_eq_false]
    refine C2.im (fun _=>e5) (fun _=>rfl) (by rfl) ?_
    simp only [tl,tl2,tl4,↓un_u,isCallR,entX,argFr,ret,retI,retB,intT,unT,endR,ressR,resR,tupT,bslR,boxR,lenAll,↓reduceIte,Nat.reduceEqDiff,Nat.reduceAdd,Nat.reduceMul,Nat.reduceLT,Nat.reduceLeDiff,reduceCtorEq,Int.reduceLE,Int.reduceLT,ne_eq,Int.reduceEq,not_false_eq_true,decide_true,decide_false,Int.reduceToNat,tl3,Int.reduceBNe,Int.reduceBEq,rmK,rm1,not_true_eq_false,bne_self_eq_false]
    refine ⟨by kernel_rfl,?_⟩
    refine W_loopF mixm (α:=Nat) [218] (fun k=>k≤y.length) (fun k=>[(218,vI k)]) (fun k=>[(94232,.arr 1 [spT sz] false),(122888,.arr 1 (Sp.map spT) false),(131080,.arr 1 [spT s] false),(135180,.arr 1 (Ys.map vRs) false)]) (fun k=>y.length - k) 0 (by omega) ?_ fun k hk=>?_
    ·refine .of [(94232,some 94232),(122888,some 122888),(131080,some 131080),(135180,some 135180)] [] rfl (by first | rfl | (rw [hst];rfl)) ?_ ?_
     all_goals (try exact clA)
    simp only [tl,tl2,tl4,↓un_u,isCallR,entX,argFr,ret,retI,retB,intT,unT,endR,ressR,resR,tupT,bslR,boxR,lenAll,↓reduceIte,Nat.reduceEqDiff,Nat.reduceAdd,Nat.reduceMul,Nat.reduceLT,Nat.reduceLeDiff,reduceCtorEq,Int.reduceLE,Int.reduceLT,ne_eq,Int.reduceEq,not_false_eq_true,decide_true,decide_false,Int.reduceToNat,tl3,Int.reduceBNe,Int.reduceBEq,rmK,rm1,not_true_eq_false,decide_eq_true_eq,decide_eq_false_iff_not]
    refine ⟨fun g3=>?_,fun g3=>?_⟩
    ·have hk2:k < y.length:=by omega
     have hwk:=i64_succ (i:=k) (by omega)
     have hrm:=hy2 _ (List.getElem_mem hk2)
     have e6:=c_equations_Of s y[k] (by omega) hrm
     have e7:=c_ref29_Of s y[k] (by omega) hrm
     obtain ⟨om1,om2⟩:=allA_sm s [y[k]] (fun r hr=>by rw [List.mem_singleton.1 hr];exact hrm)
     have e8:=c_ref29_Same (allA s [y[k]]).1 (by rw [List.length_singleton] at om2;omega) (fun x hx=>by have:=om1 x hx;omega)
     simp only [tl,tl2,tl4,↓un_u,isCallR,entX,argFr,ret,retI,retB,intT,unT,endR,ressR,resR,tupT,bslR,boxR,lenAll,↓reduceIte,Nat.reduceEqDiff,Nat.reduceAdd,Nat.reduceMul,Nat.reduceLT,Nat.reduceLeDiff,reduceCtorEq,Int.reduceLE,Int.reduceLT,ne_eq,Int.reduceEq,not_false_eq_true,decide_true,decide_false,Int.reduceToNat,tl3,Int.reduceBNe,Int.reduceBEq,rmK,rm1,not_true_eq_false,Int.toNat_natCast,getD_mapT hk2]
     refine ⟨by omega,?_⟩
     refine C1.shut [] e6 ?_ (by rfl) rfl ?_
     ·all_goals (try exact clA)
     simp only [tl,tl2,tl4,↓un_u,isCallR,entX,argFr,ret,retI,retB,intT,unT,endR,ressR,resR,tupT,bslR,boxR,lenAll,↓reduceIte,Nat.reduceEqDiff,Nat.reduceAdd,Nat.reduceMul,Nat.reduceLT,Nat.reduceLeDiff,reduceCtorEq,Int.reduceLE,Int.reduceLT,ne_eq,Int.reduceEq,not_false_eq_true,decide_true,decide_false,Int.reduceToNat,tl3,Int.reduceBNe,Int.reduceBEq,rmK,rm1,not_true_eq_false,Int.toNat_natCast,getD_mapT hk2]
     refine ⟨by kernel_rfl,by omega,?_⟩
     refine C1.shut [] e7 ?_ (by rfl) rfl ?_
     ·all_goals (try exact clA)
     refine sW ?_
     refine ⟨by kernel_rfl,?_⟩
     refine C1.im e8 (by rfl) (by rfl) ?_
     simp only [tl,tl2,tl4,↓un_u,isCallR,entX,argFr,ret,retI,retB,intT,unT,endR,ressR,resR,tupT,bslR,boxR,lenAll,↓reduceIte,Nat.reduceEqDiff,Nat.reduceAdd,Nat.reduceMul,Nat.reduceLT,Nat.reduceLeDiff,reduceCtorEq,Int.reduceLE,Int.reduceLT,ne_eq,Int.reduceEq,not_false_eq_true,decide_true,decide_false,Int.reduceToNat,tl3,Int.reduceBNe,Int.reduceBEq,rmK,rm1,not_true_eq_false,bne_self_eq_false]
     refine ⟨k + 1,by omega,by omega,?_⟩
     rw [hwk]
     refine .of [(94232,some 94232),(122888,some 122888),(131080,some 131080),(135180,some 135180)] [] rfl (by first | rfl | (rw [hst];rfl)) ?_ ?_
     all_goals (try exact clA)
    ·refine ⟨j + 1,by omega,by omega,?_⟩
     rw [hwj]
     refine .of [(94232,some 94232),(122888,some 122888),(131080,some 131080),(135180,some 135180)] [] rfl (by first | rfl | (rw [hst];rfl)) ?_ ?_
     all_goals (try exact clA)
   ·refine ⟨i + 1,by omega,by omega,?_⟩
    rw [hwi]
    refine .of [(94232,some 94232),(122888,some 122888)] [] rfl (by first | rfl | (rw [hst];rfl)) ?_ ?_
    all_goals (try exact clA)
  ·have hA:=c_ref29_All sz told (by have:=t2.len;omega) (by omega) hsmt
   rw [allA,if_neg (fun e=>e t5)] at hA
   refine C1.shut [] hA ?_ (by rfl) rfl ?_
   ·all_goals (try exact clA)
   refine sW ?_
   have hml:(tells sz told).length≤1152:=(valid_parts (valid_tells t5)).2.2.1
   have hmc:∀ x∈tells sz told,x.cells.length≤48:=tell_cells t2
   generalize tells sz told = mine at *
   refine ⟨by omega,by omega,?_⟩
   have hX:∀ x∈[q,mine,mine ++ q],x.length≤2000∧(cellsOf x).length < 60000∧∀ p∈x,p.cells.length≤60:=by
    have hq1:=cellsOf_bd hqc
    have hm1:=cellsOf_bd hmc
    intro x hx;simp at hx;rcases hx with hx | hx | hx <;> subst hx
    ·exact ⟨by omega,by omega,hqc⟩
    ·exact ⟨by omega,by omega,fun p hp=>by have:=hmc p hp;omega⟩
    ·refine ⟨by rw [List.length_append];omega,?_,fun p hp=>?_⟩
     ·have:cellsOf (mine ++ q) = cellsOf mine ++ cellsOf q:=by simp [cellsOf]
      rw [this,List.length_append];omega
     ·rcases List.mem_append.1 hp with hp | hp
      ·have:=hmc p hp;omega
      ·exact hqc p hp
   have hXl:[q,mine,mine ++ q].length = 3:=rfl
   rw [← List.map_append,show mine.length + q.length = (mine ++ q).length by simp]
   refine W_loopF mixm (α:=Nat) [266] (fun i=>i≤3) (fun i=>[(266,vI i)]) (fun i=>[(94232,.arr 1 [spT sz] false),(208924,.arr 1 ([q,mine,mine ++ q].map vQs) false)]) (fun i=>3 - i) 0 (by omega) ?_ fun i hi=>?_
   ·generalize mine ++ q = mq at *
    refine .of [(94232,some 94232),(208924,some 208924)] [208904] rfl (by first | rfl | (rw [hst];rfl)) ?_ ?_
    all_goals (try simp only [ltSto,ltO2,ltO1,ltAs,ltA,ltC,ltC0,ltC0s,ltCs,ltT,ltFr,ltS,wrOk,wrO,TL.get,hasFr,↓reduceIte,Nat.reduceEqDiff,reduceCtorEq,Option.getD_some,Option.isSome_some,List.length_map,List.length_append,List.length_cons,List.length_nil,List.append_nil,List.mem_singleton,List.mem_cons,List.not_mem_nil,and_true,true_and,and_self,imp_self,forall_const,false_implies,implies_true,true_implies,or_false,Bool.false_eq_true,Bool.true_eq_false,ImXs_nil,true_or,or_true,false_or,false_and,and_false,rmK,rm1,List.map_append,List.map_cons,List.map_nil,List.cons_append,List.nil_append,List.map_nil])
    all_goals (try (repeat' (first | exact ltXs_nil | (apply ltXs_map;intro _;exact ⟨rfl,rfl⟩) | (apply imXs_map;intro _;exact ⟨rfl,rfl⟩) | with_reducible apply imXs_append | with_reducible refine imXs_cons ⟨rfl,rfl⟩ ?_ | exact imXs_nil | with_reducible apply ltXs_append | with_reducible refine ltXs_cons ⟨rfl,rfl,?_⟩ ?_ | with_reducible apply And.intro | exact ltCs_im rfl | exact ltCs_im (by assumption) | (refine ⟨⟨?_,rfl,?_,rfl,?_⟩,trivial⟩ <;> first | (simp;done) | (apply imXs_map;intro _;exact ⟨rfl,rfl⟩)) | trivial | rfl | (rw [i64_succ (by omega)]) | omega)))
    done
   generalize [q,mine,mine ++ q] = Xs at *
   simp only [tl,tl2,tl4,↓un_u,isCallR,entX,argFr,ret,retI,retB,intT,unT,endR,ressR,resR,tupT,bslR,boxR,lenAll,↓reduceIte,Nat.reduceEqDiff,Nat.reduceAdd,Nat.reduceMul,Nat.reduceLT,Nat.reduceLeDiff,reduceCtorEq,Int.reduceLE,Int.reduceLT,ne_eq,Int.reduceEq,not_false_eq_true,decide_true,decide_false,Int.reduceToNat,tl3,Int.reduceBNe,Int.reduceBEq,rmK,rm1,not_true_eq_false,decide_eq_true_eq,decide_eq_false_iff_not]
   refine ⟨fun g1=>?_,fun g1=>?_⟩
   ·have hi2:i < Xs.length:=by omega
    have hwi:=i64_succ (i:=i) (by omega)
    simp only [tl,tl2,tl4,↓un_u,isCallR,entX,argFr,ret,retI,retB,intT,unT,endR,ressR,resR,tupT,bslR,boxR,lenAll,↓reduceIte,Nat.reduceEqDiff,Nat.reduceAdd,Nat.reduceMul,Nat.reduceLT,Nat.reduceLeDiff,reduceCtorEq,Int.reduceLE,Int.reduceLT,ne_eq,Int.reduceEq,not_false_eq_true,decide_true,decide_false,Int.reduceToNat,tl3,Int.reduceBNe,Int.reduceBEq,rmK,rm1,not_true_eq_false,Int.toNat_natCast,getD_mapT hi2]
    obtain ⟨x1,x2,x3⟩:=hX Xs[i] (List.getElem_mem hi2)
    generalize Xs[i] = x at *
    refine ⟨⟨hXl,by omega,by omega⟩,⟨hXl,hi2⟩,?_⟩
    have hC:=c_ref28_Count sz (by have:=t2.len;omega)
    refine C1.im (c_draw_Mod n 60 (by omega)) (by rfl) (by rfl) ?_
    refine sW ?_
    refine C1.shut [] hC ?_ (by rfl) rfl ?_
    ·all_goals (try exact clA)
    refine sW ?_
    refine ⟨by kernel_rfl,?_⟩
    have hKl:[n,modI n 60,cntS sz].length = 3:=rfl
    refine W_loopF mixm (α:=Nat) [277] (fun j=>j≤3) (fun j=>[(277,vI j)]) (fun j=>[(94232,.arr 1 [spT sz] false),(208924,.arr 1 (Xs.map vQs) false),(221204,.arr 1 ([n,modI n 60,cntS sz].map vI) false)]) (fun j=>3 - j) 0 (by omega) ?_ fun j hj=>?_
    ·refine .of [(94232,some 94232),(208924,some 208924),(221204,some 221204)] [] rfl (by first | rfl | (rw [hst];rfl)) ?_ ?_
     all_goals (try simp only [ltSto,ltO2,ltO1,ltAs,ltA,ltC,ltC0,ltC0s,ltCs,ltT,ltFr,ltS,wrOk,wrO,TL.get,hasFr,↓reduceIte,Nat.reduceEqDiff,reduceCtorEq,Option.getD_some,Option.isSome_some,List.length_map,List.length_append,List.length_cons,List.length_nil,List.append_nil,List.mem_singleton,List.mem_cons,List.not_mem_nil,and_true,true_and,and_self,imp_self,forall_const,false_implies,implies_true,true_implies,or_false,Bool.false_eq_true,Bool.true_eq_false,ImXs_nil,true_or,or_true,false_or,false_and,and_false,rmK,rm1,List.map_append,List.map_cons,List.map_nil,List.cons_append,List.nil_append,List.map_nil])
     all_goals (try (repeat' (first | exact ltXs_nil | (apply ltXs_map;intro _;exact ⟨rfl,rfl⟩) | (apply imXs_map;intro _;exact ⟨rfl,rfl⟩) | with_reducible apply imXs_append | with_reducible refine imXs_cons ⟨rfl,rfl⟩ ?_ | exact imXs_nil | with_reducible apply ltXs_append | with_reducible refine ltXs_cons ⟨rfl,rfl,?_⟩ ?_ | with_reducible apply And.intro | exact ltCs_im rfl | exact ltCs_im (by assumption) | (refine ⟨⟨?_,rfl,?_,rfl,?_⟩,trivial⟩ <;> first | (simp;done) | (apply imXs_map;intro _;exact ⟨rfl,rfl⟩)) | trivial | rfl | (rw [i64_succ (by omega)]) | omega)))
    generalize [n,modI n 60,cntS sz] = Ks at *
    simp only [tl,tl2,tl4,↓un_u,isCallR,entX,argFr,ret,retI,retB,intT,unT,endR,ressR,resR,tupT,bslR,boxR,lenAll,↓reduceIte,Nat.reduceEqDiff,Nat.reduceAdd,Nat.reduceMul,Nat.reduceLT,Nat.reduceLeDiff,reduceCtorEq,Int.reduceLE,Int.reduceLT,ne_eq,Int.reduceEq,not_false_eq_true,decide_true,decide_false,Int.reduceToNat,tl3,Int.reduceBNe,Int.reduceBEq,rmK,rm1,not_true_eq_false,decide_eq_true_eq,decide_eq_false_iff_not]
    refine ⟨fun g2=>?_,fun g2=>?_⟩
    ·have hj2:j < Ks.length:=by omega
     have hwj:=i64_succ (i:=j) (by omega)
     simp only [tl,tl2,tl4,↓un_u,isCallR,entX,argFr,ret,retI,retB,intT,unT,endR,ressR,resR,tupT,bslR,boxR,lenAll,↓reduceIte,Nat.reduceEqDiff,Nat.reduceAdd,Nat.reduceMul,Nat.reduceLT,Nat.reduceLeDiff,reduceCtorEq,Int.reduceLE,Int.reduceLT,ne_eq,Int.reduceEq,not_false_eq_true,decide_true,decide_false,Int.reduceToNat,tl3,Int.reduceBNe,Int.reduceBEq,rmK,rm1,not_true_eq_false,Int.toNat_natCast,getD_mapT hj2]
     generalize Ks[j] = k at *
     refine ⟨⟨hKl,by omega,by omega⟩,⟨hKl,hj2⟩,?_⟩
     have f1:=c_equations_Reduce k x (by omega) (fun p hp=>by have:=x3 p hp;omega)
     have f2:=c_ref29_Reduce k x (by omega) (fun p hp=>by have:=x3 p hp;omega)
     have f3:=c_equations_Valid k x (by omega) (fun p hp=>by have:=x3 p hp;omega)
     have f4:=c_ref29_Valid k x (by omega) (fun p hp=>by have:=x3 p hp;omega)
     have f5:=c_equations_Touched k x (by omega) x2
     have f6:=c_ref29_Touched k x (by omega) x2
     have htl:=tchA_len k x
     have f7:=c_ref28_Ints (tchA k x) (tchA k x) (by omega) (by omega)
     rw [ints_true] at f7
     obtain ⟨rm1,rm2⟩:=redA_sm k x
     have f8:=c_ref29_Same (redA k x).1 (by omega) (fun p hp=>by have:=x3 p (rm1 p hp);omega)
     refine C1.im f1 (by rfl) (by rfl) ?_
     refine sW ?_
     refine C1.im f2 (by rfl) (by rfl) ?_
     refine sW ?_
     refine C1.im f3 (by rfl) (by rfl) ?_
     refine sW ?_
     refine C1.im f4 (by rfl) (by rfl) ?_
     simp only [tl,tl2,tl4,↓un_u,isCallR,entX,argFr,ret,retI,retB,intT,unT,endR,ressR,resR,tupT,bslR,boxR,lenAll,↓reduceIte,Nat.reduceEqDiff,Nat.reduceAdd,Nat.reduceMul,Nat.reduceLT,Nat.reduceLeDiff,reduceCtorEq,Int.reduceLE,Int.reduceLT,ne_eq,Int.reduceEq,not_false_eq_true,decide_true,decide_false,Int.reduceToNat,tl3,Int.reduceBNe,Int.reduceBEq,rmK,rm1,not_true_eq_false,bne_self_eq_false]
     refine C2.im (fun _=>f5) (fun _=>rfl) (by rfl) ?_
     refine sW ?_
     refine C2.im (fun _=>f6) (fun _=>rfl) (by rfl) ?_
     refine sW ?_
     refine C2.im (fun _=>f7) (fun _=>rfl) (by rfl) ?_
     refine sW ?_
     refine C2.im (fun _=>f8) (fun _=>rfl) (by rfl) ?_
     simp only [tl,tl2,tl4,↓un_u,isCallR,entX,argFr,ret,retI,retB,intT,unT,endR,ressR,resR,tupT,bslR,boxR,lenAll,↓reduceIte,Nat.reduceEqDiff,Nat.reduceAdd,Nat.reduceMul,Nat.reduceLT,Nat.reduceLeDiff,reduceCtorEq,Int.reduceLE,Int.reduceLT,ne_eq,Int.reduceEq,not_false_eq_true,decide_true,decide_false,Int.reduceToNat,tl3,Int.reduceBNe,Int.reduceBEq,rmK,rm1,not_true_eq_false,bne_self_eq_false]
     refine ⟨j + 1,by omega,by omega,?_⟩
     rw [hwj]
     refine .of [(94232,some 94232),(208924,some 208924),(221204,some 221204)] [] rfl (by first | rfl | (rw [hst];rfl)) ?_ ?_
     all_goals (try exact clA)
    ·have f1:=c_equations_Agrees x table (by omega) h6 (fun p hp=>by have:=x3 p hp;omega)
     have f2:=c_ref29_Agrees x table (by omega) h6 (fun p hp=>by have:=x3 p hp;omega)
     have ht48:(t.length:Int)≤48:=by have:=t2.prod;omega
     have f3:=c_equations_Agrees x t (by omega) (by omega) (fun p hp=>by have:=x3 p hp;omega)
     have f4:=c_ref29_Agrees x t (by omega) (by omega) (fun p hp=>by have:=x3 p hp;omega)
     refine C1.im f1 (by rfl) (by rfl) ?_
     refine sW ?_
     refine C1.im f2 (by rfl) (by rfl) ?_
     simp only [tl,tl2,tl4,↓un_u,isCallR,entX,argFr,ret,retI,retB,intT,unT,endR,ressR,resR,tupT,bslR,boxR,lenAll,↓reduceIte,Nat.reduceEqDiff,Nat.reduceAdd,Nat.reduceMul,Nat.reduceLT,Nat.reduceLeDiff,reduceCtorEq,Int.reduceLE,Int.reduceLT,ne_eq,Int.reduceEq,not_false_eq_true,decide_true,decide_false,Int.reduceToNat,tl3,Int.reduceBNe,Int.reduceBEq,rmK,rm1,not_true_eq_false,bne_self_eq_false]
     refine C2.im (fun _=>f3) (fun _=>rfl) (by rfl) ?_
     refine sW ?_
     refine C2.im (fun _=>f4) (fun _=>rfl) (by rfl) ?_
     simp only [tl,tl2,tl4,↓un_u,isCallR,entX,argFr,ret,retI,retB,intT,unT,endR,ressR,resR,tupT,bslR,boxR,lenAll,↓reduceIte,Nat.reduceEqDiff,Nat.reduceAdd,Nat.reduceMul,Nat.reduceLT,Nat.reduceLeDiff,reduceCtorEq,Int.reduceLE,Int.reduceLT,ne_eq,Int.reduceEq,not_false_eq_true,decide_true,decide_false,Int.reduceToNat,tl3,Int.reduceBNe,Int.reduceBEq,rmK,rm1,not_true_eq_false,bne_self_eq_false]
     refine ⟨i + 1,by omega,by omega,?_⟩
     rw [hwi]
     refine .of [(94232,some 94232),(208924,some 208924)] [] rfl (by first | rfl | (rw [hst];rfl)) ?_ ?_
     all_goals (try exact clA)
   ·refine C1.im c_law29_awake (by rfl) (by rfl) ?_
    refine sW ?_
    refine .of [] [] rfl (by first | rfl | (rw [hst];rfl)) ?_ ?_
    all_goals (try exact clA)
end Go.Proofs
