/- A part of the proof: trees of Go values, short forms, contracts. -/
import Derived.WalkKit
import Derived.Still
import Derived.MapKept
import GoSem.Builtin.Cap
import Derived.Laws.Externs
import GoSem.Extern.SlicesOverlaps
import Derived.Carry
import Derived.ProofKit
import Derived.OpenShut
import Derived.HandedShaped
import Derived.Lay
import Derived.LaidLaws
import Derived.MakeChecks
import Derived.SevenTiedAt
import Derived.Test.YtiddpnhnaooohaaGreatDoorChecked
import Derived.Test.YtiddpnhnaooohaaGreatDoorK15
set_option linter.unusedSimpArgs false
set_option linter.unusedVariables false
namespace Go.Proofs
open Go Go.TL
theorem jK (n lo hi:Int):Spc Tryz.prog zW [vI n,vI lo,vI hi] [] (vB (inB n lo hi)) []:=by
 refine qd zk1 mixm (by simp) fun e _ hst=>qg ?_
 unfold qb4
 refine sW ?_
 rw [show (decide (lo≤n) && decide (n≤hi)) = inB n lo hi from rfl]
 exact .oA [] []
theorem zd9 {ws:List Int}:∀ {i:Nat},(∀ j,j < i→wdOk ws j = true)→∀ j,j < i→1≤ws.getD j 0
 | 0,_,j,h=>by omega
 | i + 1,hw,j,h=>by
   have ih:=zd9 (ws:=ws) (i:=i) fun j hj=>hw j (by omega)
   have:=hw j h
   unfold wdOk at this
   split at this
   ·rename_i e;subst e
    have:ws.getD 0 0 = 1:=by simpa using this
    omega
   ·simp only [Bool.and_eq_true,decide_eq_true_eq] at this
    have:=ih (j - 1) (by omega)
    omega
theorem qB3 (c:Col):Spc Tryz.prog Ze [colT c] [] (vI (measE c)) []:=by
 refine qd qt3 mixm (by simp) fun e _ hst=>qg ?_
 unfold Qv
 refine sW ?_
 refine C1.im (jK c.low (-1000000) 1000000) (by rfl) (by rfl) ?_
 refine sW ?_
 refine C2.im (fun _=>jK c.high (-1000000) 1000000) (fun _=>rfl) (by rfl) ?_
 simp only [tZ,↓un_u,simprocAttr,tD,Bool.not_eq_true',Bool.not_eq_false']
 refine ⟨fun h=>?_,fun h=>?_⟩
 ·rw [measE,if_pos (by grind)]
  exact .oA [] []
 ·refine ⟨fun h2=>?_,fun h2=>?_⟩
  ·rw [measE,if_neg (by grind),if_pos (by grind)]
   exact .oA [] []
  ·have hm:measE c = if zY6 c.widths = false then 2 else 0:=by rw [measE,if_neg (by grind),if_neg (by grind)]
   refine qw mixm (α:=Nat) [3] (fun i=>i≤c.widths.length∧(∀ j,j < i→wdOk c.widths j = true)) (fun i=>[(3,vI i)]) (fun i=>[(4096,.arr 7 [colT c] false)]) (fun i=>c.widths.length - i) 0 ⟨by omega,?_⟩ ?_ fun i hi=>?_
   ·intro j hj;omega
   ·exact .oA [(4096,some 4096)] []
   have hbad:i < c.widths.length→wdOk c.widths i = false→measE c = 2:=fun h1 h2=>by
    rw [hm,if_pos]
    exact List.all_eq_false.2 ⟨i,List.mem_range.2 h1,by rw [h2];simp⟩
   have hok:wdOk c.widths i = true→∀ j,j < i + 1→wdOk c.widths j = true:=fun h1 j hj=>by
    by_cases e:j = i
    ·rw [e];exact h1
    ·exact hi.2 j (by omega)
   simp only [tZ,↓un_u,simprocAttr,decide_eq_true_eq,decide_eq_false_iff_not]
   refine ⟨fun h=>?_,fun h=>?_⟩
   ·rcases Nat.eq_zero_or_pos i with h0 | h0
    ·subst h0
     have hw0:wdOk c.widths 0 = (c.widths.getD 0 0 == 1):=by rw [wdOk,if_pos rfl]
     have hlen:0 < c.widths.length:=by omega
     rw [qk hlen] at hw0
     have hz:((0:Nat):Int) = 0:=rfl
     have hz2:(IntKind.i64.wrap (-1)).toNat = 0:=by decide
     have hz3:=qj (i:=0) (by omega)
     rw [hz] at hz3
     simp only [tZ,↓un_u,simprocAttr,Int.toNat_natCast,hz,beq_self_eq_true,gt_iff_lt,Int.lt_irrefl,Bool.true_and,hz2,qe hlen,hz3]
     refine ⟨by omega,fun h3=>?_,fun h3=>?_⟩
     ·rw [hbad hlen (by rw [hw0];simpa using h3)]
      exact .oA [] []
     ·refine ⟨1,⟨by omega,hok (by rw [hw0];simpa using h3)⟩,by omega,?_⟩
      exact .oA [(4096,some 4096)] []
    ·obtain ⟨k,rfl⟩:∃ k,i = k + 1:=⟨i - 1,by omega⟩
     have hk2:k + 1 < c.widths.length:=by omega
     have hk3:k < c.widths.length:=by omega
     have e1:(((k + 1:Nat):Int) == 0) = false:=beq_eq_false_iff_ne.2 (by omega)
     have e2:decide (((k + 1:Nat):Int) > 0) = true:=decide_eq_true (by omega)
     have hw1:wdOk c.widths (k + 1) = (decide (c.widths[k] < c.widths[k + 1]) && decide (c.widths[k + 1]≤1000000) && (c.widths[k + 1].tmod c.widths[k] == 0)):=by
          rw [wdOk,if_neg (by omega),Nat.add_sub_cancel,qk hk2,qk hk3]
     have hp1:=zd9 (ws:=c.widths) hi.2 k (by omega)
     rw [qk hk3] at hp1
     have hws:=qj (i:=k + 1) (by omega)
     have e3:=Ki (i:=k + 1) (by omega) (by omega)
     rw [Nat.add_sub_cancel] at e3
     simp only [tZ,↓un_u,simprocAttr,Int.toNat_natCast,qe hk2,qe hk3,e1,e2,e3,hws]
     refine ⟨by omega,by omega,fun _=>by omega,fun _=>by omega,fun h3=>?_,fun h3=>?_⟩
     ·rw [hbad hk2 (by rw [hw1];grind)]
      exact .oA [] []
     ·refine ⟨k + 2,⟨by omega,hok (by rw [hw1];grind)⟩,by omega,?_⟩
      exact .oA [(4096,some 4096)] []
   ·have hi2:i = c.widths.length:=by omega
    subst hi2
    rw [hm,if_neg]
    ·exact .oA [] []
    ·rw [Bool.not_eq_false]
     exact List.all_eq_true.2 fun j hj=>hi.2 j (List.mem_range.1 hj)
theorem qI9 (s:Sch) (i:Nat) (hi:i < s.cols.length) (hn:s.cols.length < 4611686018427387904) (hl:s.lists.length < 4611686018427387904):Spc Tryz.prog ZV [schT s,vI i] [] (vI (colE s i)) []:=by
 have hat:qh s i = s.cols[i]:=by rw [qh,qk hi]
 have hE:colE s i = if ko s.cols[i].name = false then 3
  else if ((s.cols.take i).any fun x=>eqB x.name s.cols[i].name) = true then 10
  else if inB s.cols[i].kind 1 3 = false∨(0 < i∧s.cols[i].kind = 1) then 4
  else if s.cols[i].kind = 2∧inB s.cols[i].list 0 (s.lists.length - 1) = false then 5
  else if s.cols[i].kind = 3∧measE s.cols[i]≠0 then measE s.cols[i]
  else if (s.cols[i].kind≠2∧s.cols[i].list≠0)∨(s.cols[i].kind≠3∧(s.cols[i].low≠0∨s.cols[i].high≠0∨0 < s.cols[i].widths.length∨s.cols[i].opt = true)) then 11 else 0:=by rw [colE,hat]
 rw [hE]
 refine qd qA7 mixm (by simp) fun e _ hst=>qg ?_
 unfold Zs
 simp only [tZ,↓un_u,simprocAttr,Int.toNat_natCast,qe hi]
 generalize s.cols[i] = c
 refine ⟨by omega,?_⟩
 refine C1.im (ZP c.name) (by rfl) (by rfl) ?_
 simp only [tZ,↓un_u,simprocAttr,Bool.not_eq_true',Bool.not_eq_false']
 refine ⟨fun h=>?_,fun h=>?_⟩
 ·rw [if_pos h]
  exact .oA [] []
 rw [if_neg (by rw [h];simp)]
 refine qw mixm (α:=Nat) [6] (fun k=>k≤i∧(s.cols.take k).any (fun x=>eqB x.name c.name) = false) (fun k=>[(6,vI k)]) (fun k=>[(4096,.arr 2 [schT s] false),(8212,.arr 7 [colT c] false)]) (fun k=>i - k) 0 ⟨by omega,rfl⟩ ?_ fun k hk=>?_
 ·exact .oA [(4096,some 4096),(8212,some 8212)] []
 simp only [tZ,↓un_u,simprocAttr,decide_eq_true_eq,decide_eq_false_iff_not]
 refine ⟨fun h=>?_,fun h=>?_⟩
 ·have hk2:k < s.cols.length:=by omega
  have hwk:=qj (i:=k) (by omega)
  simp only [tZ,↓un_u,simprocAttr,Int.toNat_natCast,qe hk2,hwk]
  refine ⟨by omega,by kernel_rfl,fun h7=>?_,fun h7=>?_⟩
  ·rw [if_pos (List.any_eq_true.2 ⟨s.cols[k],List.mem_take_iff_getElem.2 ⟨k,by omega,rfl⟩,h7⟩)]
   exact .oA [] []
  ·refine ⟨k + 1,⟨by omega,zY hk2 hk.2 h7⟩,by omega,?_⟩
   exact .oA [(4096,some 4096),(8212,some 8212)] []
 ·have hki:k = i:=by omega
  subst hki
  rw [if_neg (by rw [hk.2];simp)]
  refine C1.im (jK c.kind 1 3) (by rfl) (by rfl) ?_
  simp only [tZ,↓un_u,simprocAttr,tD,Bool.not_eq_true',Bool.not_eq_false',beq_iff_eq,beq_eq_false_iff_ne]
  refine ⟨fun h7=>?_,fun h7=>?_⟩
  ·rw [if_pos (by grind)]
   exact .oA [] []
  rw [if_neg (by grind)]
  have hw:IntKind.i64.wrap ((s.lists.length:Int) - 1) = (s.lists.length:Int) - 1:=IntWalk.i64_in _ (by omega)
  simp only [tZ,↓un_u,simprocAttr,hw]
  refine C2.im (fun _=>jK c.list 0 ((s.lists.length:Int) - 1)) (fun _=>rfl) (by rfl) ?_
  simp only [tZ,↓un_u,simprocAttr,tD,Bool.not_eq_true',Bool.not_eq_false',beq_iff_eq,beq_eq_false_iff_ne]
  refine ⟨fun h8=>?_,fun h8=>?_⟩
  ·rw [if_pos (by grind)]
   exact .oA [] []
  rw [if_neg (by grind)]
  have hend:∀ v:Int,(if c.kind = 3∧¬measE c = 0 then measE c else if ¬c.kind = 2∧¬c.list = 0∨¬c.kind = 3∧(¬c.low = 0∨¬c.high = 0∨0 < c.widths.length∨c.opt = true) then 11 else 0) = v→Qd [] (T.v (Value.int IntKind.i64 v)) [(4096,Ob.arr 2 [schT s] false),(8212,Ob.arr 7 [colT c] false)] (vI (if c.kind = 3∧¬measE c = 0 then measE c else if ¬c.kind = 2∧¬c.list = 0∨¬c.kind = 3∧(¬c.low = 0∨¬c.high = 0∨0 < c.widths.length∨c.opt = true) then 11 else 0)) []:=fun v hv=>by
   rw [hv]
   exact .oA [] []
  refine ⟨fun h9=>?_,fun h9=>?_⟩
  ·refine C1.im (qB3 c) (by rfl) (by rfl) ?_
   simp only [tZ,↓un_u,simprocAttr,bne_iff_ne,bne_eq_false_iff_eq]
   refine ⟨fun h10=>hend _ (by rw [if_pos ⟨h9,h10⟩]),fun h10=>?_⟩
   simp only [tZ,↓un_u,simprocAttr,tD,bne_iff_ne,bne_eq_false_iff_eq]
   exact ⟨fun h11=>hend _ (by rw [if_neg (by grind),if_pos (by grind)]),fun h11=>hend _ (by rw [if_neg (by grind),if_neg (by grind)])⟩
  ·simp only [tZ,↓un_u,simprocAttr,tD,bne_iff_ne,bne_eq_false_iff_eq]
   exact ⟨fun h11=>hend _ (by rw [if_neg (by grind),if_pos (by grind)]),fun h11=>hend _ (by rw [if_neg (by grind),if_neg (by grind)])⟩
theorem qB4 {s:Sch} {i:Nat} (h:wH s i≠0):∀ n,i≤n→wH s n = wH s i:=by
 intro n hn
 induction n with
 | zero=>have:i = 0:=by omega
         rw [this]
 | succ n ih=>
   by_cases e:i = n + 1
   ·rw [e]
   ·have:=ih (by omega)
    rw [wH,this,if_pos h]
theorem qB5 {s:Sch} {i:Nat} (h:JT s i≠0):∀ n,i≤n→JT s n = JT s i:=by
 intro n hn
 induction n with
 | zero=>have:i = 0:=by omega
         rw [this]
 | succ n ih=>
   by_cases e:i = n + 1
   ·rw [e]
   ·have:=ih (by omega)
    rw [JT,this,if_pos h]
def QO (s:Sch):Prop:=s.lists.length < 4611686018427387904∧s.cols.length < 4611686018427387904∧∀ l∈s.lists,l.codes.length < 4611686018427387904
theorem QP (s:Sch) (hs:QO s):Spc Tryz.prog kA [schT s] [] (vI (schE s)) []:=by
 obtain ⟨hs1,hs2,hs3⟩:=hs
 refine qd qF7 mixm (by simp) fun e _ hst=>qg ?_
 unfold Je
 refine sD ?_
 refine ⟨fun h=>?_,fun h=>?_⟩
 ·rw [schE,if_pos (by omega)]
  exact .oA [] []
 have hE1:wH s s.lists.length≠0→schE s = wH s s.lists.length:=fun k=>by rw [schE,if_neg (by omega),if_pos k]
 refine qw mixm (α:=Nat) [3,17] (fun i=>i≤s.lists.length∧wH s i = 0) (fun i=>[(3,vI i)]) (fun i=>[(4096,.arr 2 [schT s] false)]) (fun i=>s.lists.length - i) 0 ⟨by omega,rfl⟩ ?_ fun i hi=>?_
 ·exact .oA [(4096,some 4096)] []
 obtain ⟨i1,i2⟩:=hi
 refine sD ?_
 refine ⟨fun h2=>?_,fun h2=>?_⟩
 ·have hi2:i < s.lists.length:=by omega
  have hwi:=qj (i:=i) (by omega)
  have hat:s.lists.getD i default = s.lists[i]:=qk hi2
  have hstep:wH s (i + 1) = if lstE s.lists[i]≠0 then lstE s.lists[i] else if ((s.lists.take i).any fun x=>eqB x.name s.lists[i].name) = true then 10 else 0:=by
   rw [wH,if_neg (by rw [i2];simp),hat]
  have hbad:wH s (i + 1)≠0→schE s = wH s (i + 1):=fun k=>by
   have:=qB4 k s.lists.length (by omega)
   rw [hE1 (by rw [this];exact k),this]
  simp only [tZ,↓un_u,simprocAttr,Int.toNat_natCast,qe hi2,hwi]
  refine ⟨by omega,?_⟩
  refine C1.im (yn s.lists[i] (hs3 _ (List.getElem_mem hi2))) (by rfl) (by rfl) ?_
  simp only [tZ,↓un_u,simprocAttr,bne_iff_ne,bne_eq_false_iff_eq]
  refine ⟨fun h3=>?_,fun h3=>?_⟩
  ·rw [if_pos h3] at hstep
   rw [hbad (by rw [hstep];exact h3),hstep]
   exact .oA [] []
  rw [if_neg (by rw [h3];simp)] at hstep
  refine qw mixm (α:=Nat) [5] (fun k=>k≤i∧(s.lists.take k).any (fun x=>eqB x.name s.lists[i].name) = false) (fun k=>[(5,vI k)]) (fun k=>[(4096,.arr 2 [schT s] false)]) (fun k=>i - k) 0 ⟨by omega,rfl⟩ ?_ fun k hk=>?_
  ·exact .oA [(4096,some 4096)] []
  simp only [tZ,↓un_u,simprocAttr,decide_eq_true_eq,decide_eq_false_iff_not]
  refine ⟨fun h=>?_,fun h=>?_⟩
  ·have hk2:k < s.lists.length:=by omega
   have hwk:=qj (i:=k) (by omega)
   simp only [tZ,↓un_u,simprocAttr,Int.toNat_natCast,qe hk2,qe hi2,hwk]
   refine ⟨by omega,by omega,by kernel_rfl,fun h7=>?_,fun h7=>?_⟩
   ·rw [if_pos (List.any_eq_true.2 ⟨s.lists[k],List.mem_take_iff_getElem.2 ⟨k,by omega,rfl⟩,h7⟩)] at hstep
    rw [hbad (by rw [hstep];simp),hstep]
    exact .oA [] []
   ·refine ⟨k + 1,⟨by omega,zY hk2 hk.2 h7⟩,by omega,?_⟩
    exact .oA [(4096,some 4096)] []
  ·have hki:k = i:=by omega
   subst hki
   rw [if_neg (by rw [hk.2];simp)] at hstep
   simp only [tZ,↓un_u,simprocAttr,hwi]
   refine ⟨k + 1,⟨by omega,hstep⟩,by omega,?_⟩
   exact .oA [(4096,some 4096)] []
 ·have hil:i = s.lists.length:=by omega
  subst hil
  have hE2:s.cols.length = 0∨(qh s 0).kind≠1→schE s = 7:=fun k=>by rw [schE,if_neg (by omega),if_neg (by rw [i2];simp),if_pos k]
  have hE3:¬ (s.cols.length = 0∨(qh s 0).kind≠1)→schE s = JT s s.cols.length:=fun k=>by rw [schE,if_neg (by omega),if_neg (by rw [i2];simp),if_neg k]
  have hz:((0:Nat):Int) = 0:=rfl
  by_cases h0:s.cols.length = 0
  ·have hn:s.cols = []:=List.length_eq_zero_iff.1 h0
   rw [hE2 (.inl h0)]
   simp only [tZ,↓un_u,simprocAttr,hn,List.length_nil,hz,beq_self_eq_true]
   exact .oA [] []
  ·have h0p:0 < s.cols.length:=by omega
   have e0:((s.cols.length:Int) == 0) = false:=beq_eq_false_iff_ne.2 (by omega)
   have hc0:qh s 0 = s.cols[0]:=by rw [qh,qk h0p]
   simp only [tZ,↓un_u,simprocAttr,e0,qe h0p,bne_iff_ne,bne_eq_false_iff_eq,Bool.false_or]
   refine ⟨by omega,fun h3=>?_,fun h3=>?_⟩
   ·rw [hE2 (.inr (by rw [hc0];exact h3))]
    exact .oA [] []
   have hE4:=hE3 (by rw [hc0];grind)
   refine qw mixm (α:=Nat) [6,63] (fun i=>i≤s.cols.length∧JT s i = 0) (fun i=>[(6,vI i)]) (fun i=>[(4096,.arr 2 [schT s] false)]) (fun i=>s.cols.length - i) 0 ⟨by omega,rfl⟩ ?_ fun i hi=>?_
   ·exact .oA [(4096,some 4096)] []
   simp only [tZ,↓un_u,simprocAttr,decide_eq_true_eq,decide_eq_false_iff_not]
   refine ⟨fun h=>?_,fun h=>?_⟩
   ·have hi2:i < s.cols.length:=by omega
    have hwi:=qj (i:=i) (by omega)
    have hstep:JT s (i + 1) = colE s i:=by rw [JT,if_neg (by rw [hi.2];simp)]
    refine C1.im (qI9 s i hi2 hs2 hs1) (by rfl) (by rfl) ?_
    simp only [tZ,↓un_u,simprocAttr,bne_iff_ne,bne_eq_false_iff_eq,hwi]
    refine ⟨fun h4=>?_,fun h4=>?_⟩
    ·have:=qB5 (s:=s) (i:=i + 1) (by rw [hstep];exact h4) s.cols.length (by omega)
     rw [hE4,this,hstep]
     exact .oA [] []
    ·refine ⟨i + 1,⟨by omega,by rw [hstep];exact h4⟩,by omega,?_⟩
     exact .oA [(4096,some 4096)] []
   ·have hi2:i = s.cols.length:=by omega
    subst hi2
    rw [hE4,hi.2]
    exact .oA [] []
end Go.Proofs
namespace Go.Proofs
open Go Go.TL
set_option maxRecDepth 4000
set_option maxHeartbeats 8000000
theorem Zy (p:CodL→Bool) (f:FuncId) (caps:List T) (hcap:imL caps = true) (l:List CodL) (hf:∀ y∈l,Spc Tryz.prog f (cdlT y :: caps) [] (vB (p y)) []) (hl:l.length < 4611686018427387904) :
 Spc Tryz.prog zJ [.sl 2 (l.map cdlT),.clo f caps] [] (vI (idxI p l)) []:=by
 refine qd QM mixm (by simp) fun e _ hst=>qg ?_
 unfold zG
 refine sW ?_
 refine qw mixm (α:=Nat) [8] (fun i=>i≤l.length∧((l.take i).any p = false)) (fun i=>[(8,vI i)]) (fun i=>[]) (fun i=>l.length - i) 0 ⟨by omega,?_⟩ ?_ fun i hi=>?_
 ·simp
 ·exact .oA [] []
 simp only [tZ,↓un_u,simprocAttr,decide_eq_true_eq,decide_eq_false_iff_not]
 refine ⟨fun h=>?_,fun h=>?_⟩
 ·have hi2:i < l.length:=by omega
  have hwi:=qj (i:=i) (by omega)
  simp only [tZ,↓un_u,simprocAttr,Int.toNat_natCast,qe hi2,hwi,ql7]
  refine ⟨by omega,?_⟩
  refine C1.im (hf l[i] (List.getElem_mem hi2)) (qf4 rfl hcap) rfl ?_
  refine sW ?_
  refine ⟨fun h3=>?_,fun h3=>⟨i + 1,⟨by omega,zY hi2 hi.2 h3⟩,by omega,?_⟩⟩
  ·rw [idxI,if_pos (qf3 hi2 h3),JJ hi2 hi.2 h3]
   exact .imR rfl rfl
  ·exact .oA [] []
 ·have h2:i = l.length:=by omega
  have h3:=hi.2
  rw [h2,List.take_length] at h3
  rw [idxI,if_neg (by rw [h3];simp)]
  exact .imR rfl rfl
theorem Qa (p:CodL→Bool) (f:FuncId) (caps:List T) (hcap:imL caps = true) (l:List CodL) (hf:∀ y∈l,Spc Tryz.prog f (cdlT y :: caps) [] (vB (p y)) []) (hl:l.length < 4611686018427387904) :
 Spc Tryz.prog zx [.sl 2 (l.map cdlT),.clo f caps] [] (vB (l.any p)) []:=by
 refine qd yH mixm (by simp) fun e _ hst=>qg ?_
 unfold zr
 refine sW ?_
 refine C1.im (Zy p f caps hcap l hf hl) (qu6 rfl hcap) rfl ?_
 refine sW ?_
 rw [show decide (idxI p l≥0) = l.any p from qQ4 p l]
 exact .imR rfl rfl
theorem Jx (p:Col→Bool) (f:FuncId) (caps:List T) (hcap:imL caps = true) (l:List Col) (hf:∀ y∈l,Spc Tryz.prog f (colT y :: caps) [] (vB (p y)) []) (hl:l.length < 4611686018427387904) :
 Spc Tryz.prog jf [.sl 7 (l.map colT),.clo f caps] [] (vI (idxI p l)) []:=by
 refine qd ZH mixm (by simp) fun e _ hst=>qg ?_
 unfold zS
 refine sW ?_
 refine qw mixm (α:=Nat) [8] (fun i=>i≤l.length∧((l.take i).any p = false)) (fun i=>[(8,vI i)]) (fun i=>[]) (fun i=>l.length - i) 0 ⟨by omega,?_⟩ ?_ fun i hi=>?_
 ·simp
 ·exact .oA [] []
 simp only [tZ,↓un_u,simprocAttr,decide_eq_true_eq,decide_eq_false_iff_not]
 refine ⟨fun h=>?_,fun h=>?_⟩
 ·have hi2:i < l.length:=by omega
  have hwi:=qj (i:=i) (by omega)
  simp only [tZ,↓un_u,simprocAttr,Int.toNat_natCast,qe hi2,hwi,ql7]
  refine ⟨by omega,?_⟩
  refine C1.im (hf l[i] (List.getElem_mem hi2)) (qf4 rfl hcap) rfl ?_
  refine sW ?_
  refine ⟨fun h3=>?_,fun h3=>⟨i + 1,⟨by omega,zY hi2 hi.2 h3⟩,by omega,?_⟩⟩
  ·rw [idxI,if_pos (qf3 hi2 h3),JJ hi2 hi.2 h3]
   exact .imR rfl rfl
  ·exact .oA [] []
 ·have h2:i = l.length:=by omega
  have h3:=hi.2
  rw [h2,List.take_length] at h3
  rw [idxI,if_neg (by rw [h3];simp)]
  exact .imR rfl rfl
theorem QQ (p:Col→Bool) (f:FuncId) (caps:List T) (hcap:imL caps = true) (l:List Col) (hf:∀ y∈l,Spc Tryz.prog f (colT y :: caps) [] (vB (p y)) []) (hl:l.length < 4611686018427387904) :
 Spc Tryz.prog zF [.sl 7 (l.map colT),.clo f caps] [] (vB (l.any p)) []:=by
 refine qd Qs mixm (by simp) fun e _ hst=>qg ?_
 unfold zB
 refine sW ?_
 refine C1.im (Jx p f caps hcap l hf hl) (qu6 rfl hcap) rfl ?_
 refine sW ?_
 rw [show decide (idxI p l≥0) = l.any p from qQ4 p l]
 exact .imR rfl rfl
theorem qt5 (x y:CodL):Spc Tryz.prog wl [cdlT x,.ip (cdlT y).cells] [] (vB (eqB x.name y.name)) []:=by
 refine qd qn3 mixm (by simp) fun e _ hst=>qg ?_
 unfold yI
 refine sW ?_
 rw [show (x.name.toList == y.name.toList) = eqB x.name y.name from rfl]
 exact .oA [] []
theorem Wn (x y:Col):Spc Tryz.prog zP [colT x,.ip (colT y).cells] [] (vB (eqB x.name y.name)) []:=by
 refine qd KK mixm (by simp) fun e _ hst=>qg ?_
 unfold jD
 refine sW ?_
 rw [show (x.name.toList == y.name.toList) = eqB x.name y.name from rfl]
 exact .oA [] []
def unuB (c:Col):Bool:=!(((c.kind != 2) && (c.list != 0)) || ((c.kind != 3) && ((c.low != 0) || (c.high != 0) || (c.widths.length != 0) || c.opt)))
theorem Zz (c:Col):Spc Tryz.prog Zc [colT c] [] (vB (unuB c)) []:=by
 refine qd qs9 mixm (by simp) fun e _ hst=>qg ?_
 unfold Qt
 refine sW ?_
 refine ⟨fun h=>?_,fun h=>?_⟩
 ·have:unuB c = false:=by unfold unuB;rw [h];rfl
  rw [this]
  exact .oA [] []
 ·have e:((c.widths.length:Int) == 0) = (c.widths.length == 0):=by rw [Bool.eq_iff_iff,beq_iff_eq,beq_iff_eq];omega
  have:unuB c = (c.kind == 3 || c.low == 0 && c.high == 0 && ((c.widths.length:Int) == 0) && !c.opt):=by
   unfold unuB
   rw [h,e]
   simp only [Bool.false_or,bne,Bool.not_and,Bool.not_or,Bool.not_not]
  rw [this]
  exact .oA [] []
def ze0 (ws:List Int) (i:Nat):Int:=if i = 0 then 1 else ws.getD (i - 1) 0
theorem Yc (c:Col):Spc Tryz.prog jZ [colT c] [] (vI (measE c)) []:=by
 refine qd Wm mixm (by simp) fun e _ hst=>qg ?_
 unfold jS
 refine sW ?_
 simp only [tZ,↓un_u,simprocAttr,tD,Bool.not_eq_true',Bool.not_eq_false',beq_iff_eq,beq_eq_false_iff_ne]
 have hin:∀ n:Int,inB n (-1000000) 1000000 = false↔(n < -1000000∨n > 1000000):=fun n=>by
  unfold inB
  rw [Bool.and_eq_false_iff,decide_eq_false_iff_not,decide_eq_false_iff_not]
  omega
 refine ⟨fun h=>?_,fun h=>?_⟩
 ·have k:inB c.low (-1000000) 1000000 = false∨inB c.high (-1000000) 1000000 = false∨c.low > c.high:=by
   rw [hin,hin]
   omega
  rw [measE,if_pos k]
  exact .oA [] []
 have hA:¬ (inB c.low (-1000000) 1000000 = false∨inB c.high (-1000000) 1000000 = false∨c.low > c.high):=by
  rw [hin,hin]
  omega
 refine ⟨fun h2=>?_,fun h2=>?_⟩
 ·rw [measE,if_neg hA,if_pos (by omega)]
  exact .oA [] []
 have hm:measE c = if zY6 c.widths = false then 2 else 0:=by rw [measE,if_neg hA,if_neg (by omega)]
 refine qw mixm (α:=Nat) [3,36] (fun i=>i≤c.widths.length∧(∀ j,j < i→wdOk c.widths j = true)) (fun i=>[(3,vI (ze0 c.widths i)),(36,vI i)]) (fun i=>[]) (fun i=>c.widths.length - i) 0 ⟨by omega,?_⟩ ?_ fun i hi=>?_
 ·intro j hj;omega
 ·exact .oA [] []
 have hbad:i < c.widths.length→wdOk c.widths i = false→measE c = 2:=fun h1 h2=>by
  rw [hm,if_pos]
  exact List.all_eq_false.2 ⟨i,List.mem_range.2 h1,by rw [h2];simp⟩
 have hok:wdOk c.widths i = true→∀ j,j < i + 1→wdOk c.widths j = true:=fun h1 j hj=>by
  by_cases e:j = i
  ·rw [e];exact h1
  ·exact hi.2 j (by omega)
 simp only [tZ,↓un_u,simprocAttr,decide_eq_true_eq,decide_eq_false_iff_not]
 refine ⟨fun h=>?_,fun h=>?_⟩
 ·have hi2:i < c.widths.length:=by omega
  have hwi:=qj (i:=i) (by omega)
  have hnx:ze0 c.widths (i + 1) = c.widths[i]:=by rw [ze0,if_neg (by omega),Nat.add_sub_cancel,qk hi2]
  rcases Nat.eq_zero_or_pos i with h0 | h0
  ·subst h0
   have hw0:wdOk c.widths 0 = (c.widths[0] == 1):=by rw [wdOk,if_pos rfl,qk hi2]
   have hz:((0:Nat):Int) = 0:=rfl
   rw [hz] at hwi
   simp only [tZ,↓un_u,simprocAttr,Int.toNat_natCast,hz,beq_self_eq_true,gt_iff_lt,Int.lt_irrefl,decide_false,Bool.false_and,Bool.or_false,Bool.true_and,qe hi2,bne_iff_ne,bne_eq_false_iff_eq]
   have hwz:IntKind.i64.wrap 1 = ((1:Nat):Int):=by decide
   refine ⟨by omega,fun h3=>?_,fun h3=>?_⟩
   ·rw [hbad hi2 (by rw [hw0];simpa using h3)]
    exact .oA [] []
   ·rw [hwz]
    refine ⟨1,⟨by omega,hok (by rw [hw0];simpa using h3)⟩,by omega,?_⟩
    rw [hnx]
    exact .oA [] []
  ·have e1:((i:Int) == 0) = false:=beq_eq_false_iff_ne.2 (by omega)
   have e2:decide ((i:Int) > 0) = true:=decide_eq_true (by omega)
   have hw1:wdOk c.widths i = (decide (ze0 c.widths i < c.widths[i]) && decide (c.widths[i]≤1000000) && (c.widths[i].tmod (ze0 c.widths i) == 0)):=by
    rw [wdOk,if_neg (by omega),qk hi2,ze0,if_neg (by omega)]
   have hp1:1≤ze0 c.widths i:=by
    have:=zd9 (ws:=c.widths) hi.2 (i - 1) (by omega)
    rw [ze0,if_neg (by omega)]
    exact this
   simp only [tZ,↓un_u,simprocAttr,Int.toNat_natCast,qe hi2,e1,e2,hwi,tD,bne_iff_ne,bne_eq_false_iff_eq]
   refine ⟨by omega,fun _=>by omega,fun h3=>?_,fun h3=>?_⟩
   ·rw [hbad hi2 (by rw [hw1];grind)]
    exact .oA [] []
   ·refine ⟨i + 1,⟨by omega,hok (by rw [hw1];grind)⟩,by omega,?_⟩
    rw [hnx]
    exact .oA [] []
 ·have hi2:i = c.widths.length:=by omega
  subst hi2
  rw [hm,if_neg]
  ·exact .oA [] []
  ·rw [Bool.not_eq_false]
   exact List.all_eq_true.2 fun j hj=>hi.2 j (List.mem_range.1 hj)
theorem YL (s:Sch) (i:Nat) (hi:i < s.cols.length) (hn:s.cols.length < 4611686018427387904) (hl:s.lists.length < 4611686018427387904):Spc Tryz.prog kL [schT s,vI i] [] (vI (colE s i)) []:=by
 have hat:qh s i = s.cols[i]:=by rw [qh,qk hi]
 have hE:colE s i = if ko s.cols[i].name = false then 3
  else if ((s.cols.take i).any fun x=>eqB x.name s.cols[i].name) = true then 10
  else if inB s.cols[i].kind 1 3 = false∨(0 < i∧s.cols[i].kind = 1) then 4
  else if s.cols[i].kind = 2∧inB s.cols[i].list 0 (s.lists.length - 1) = false then 5
  else if s.cols[i].kind = 3∧measE s.cols[i]≠0 then measE s.cols[i]
  else if (s.cols[i].kind≠2∧s.cols[i].list≠0)∨(s.cols[i].kind≠3∧(s.cols[i].low≠0∨s.cols[i].high≠0∨0 < s.cols[i].widths.length∨s.cols[i].opt = true)) then 11 else 0:=by rw [colE,hat]
 rw [hE]
 refine qd WT mixm (by simp) fun e _ hst=>qg ?_
 unfold kg
 simp only [tZ,↓un_u,simprocAttr,Int.toNat_natCast,qe hi]
 generalize s.cols[i] = c
 refine ⟨by omega,?_⟩
 refine C1.im (ZQ c.name) (by rfl) (by rfl) ?_
 simp only [tZ,↓un_u,simprocAttr,Bool.not_eq_true',Bool.not_eq_false']
 refine ⟨fun h=>?_,fun h=>?_⟩
 ·rw [if_pos h]
  exact .oA [] []
 rw [if_neg (by rw [h];simp)]
 have hCF:=QQ (fun x=>eqB x.name c.name) zP [.ip (colT c).cells] rfl (s.cols.take i) (fun x _=>Wn x c) (by rw [List.length_take];omega)
 refine ⟨by omega,?_⟩
 rw [qa4,qM4]
 refine C1.lend [8212] hCF ?_ (by rfl) (by rfl) ?_
 ·all_goals (try simp only [tL,simprocAttr,List.map_append,List.map_cons,List.map_nil,List.cons_append,List.nil_append])
  all_goals (try (repeat' (first | exact qT | (apply zj;intro _;exact ⟨rfl,rfl⟩) | (apply qz;intro _;exact ⟨rfl,rfl⟩) | with_reducible apply qJ | with_reducible refine qM ⟨rfl,rfl⟩ ?_ | exact qW | with_reducible apply qE | with_reducible refine qK ⟨rfl,rfl,?_⟩ ?_ | with_reducible apply And.intro | exact qG rfl | exact qG (by assumption) | (refine ⟨⟨?_,rfl,?_,rfl,?_⟩,trivial⟩ <;> first | (simp;done) | (apply qz;intro _;exact ⟨rfl,rfl⟩)) | trivial | rfl | (rw [qj (by omega)]) | omega)))
  simp only [ltP]
  exact ⟨rfl,by decide,rfl,qM ⟨rfl,rfl⟩ qW⟩
 simp only [tZ,↓un_u,simprocAttr,tD,Bool.not_eq_true',Bool.not_eq_false',beq_iff_eq,beq_eq_false_iff_ne]
 refine ⟨fun h2=>?_,fun h2=>?_⟩
 ·rw [if_pos h2]
  exact .oA [] []
 rw [if_neg (by rw [h2];simp)]
 have hI:inB c.kind 1 3 = false↔¬ (1≤c.kind∧c.kind≤3):=by unfold inB;rw [Bool.and_eq_false_iff,decide_eq_false_iff_not,decide_eq_false_iff_not];omega
 have hL:inB c.list 0 (s.lists.length - 1) = false↔(c.list < 0∨(s.lists.length:Int)≤c.list):=by unfold inB;rw [Bool.and_eq_false_iff,decide_eq_false_iff_not,decide_eq_false_iff_not];omega
 have hU:unuB c = false↔((c.kind≠2∧c.list≠0)∨(c.kind≠3∧(c.low≠0∨c.high≠0∨0 < c.widths.length∨c.opt = true))):=by
  have hw0:c.widths.length≠0↔0 < c.widths.length:=by omega
  unfold unuB
  rw [Bool.not_eq_false',Bool.or_eq_true,Bool.and_eq_true,Bool.and_eq_true,bne_iff_ne,bne_iff_ne,bne_iff_ne,Bool.or_eq_true,Bool.or_eq_true,Bool.or_eq_true,bne_iff_ne,bne_iff_ne,bne_iff_ne,hw0,or_assoc,or_assoc]
 have hfin:∀ (v:Int),(unuB c = false→v = 11)→(unuB c = true→v = 0)→v = if (c.kind≠2∧c.list≠0)∨(c.kind≠3∧(c.low≠0∨c.high≠0∨0 < c.widths.length∨c.opt = true)) then 11 else 0:=fun v h11 h00=>by
  by_cases k:unuB c = false
  ·rw [if_pos (hU.1 k),h11 k]
  ·rw [if_neg (fun e=>k (hU.2 e)),h00 (by simpa using k)]
 refine ⟨fun k1=>⟨fun h3=>?_,fun h3=>?_⟩,fun k1=>⟨fun k2=>⟨fun h3=>?_,fun h3=>?_⟩,fun k2=>⟨fun k3=>?_,fun k3=>?_⟩⟩⟩
 ·rw [if_pos (.inr ⟨by omega,k1⟩)]
  exact .oA [] []
 ·rw [if_neg (by rw [hI];omega),if_neg (by omega),if_neg (by omega)]
  refine C1.im (Zz c) (by rfl) (by rfl) ?_
  simp only [tZ,↓un_u,simprocAttr,Bool.not_eq_true',Bool.not_eq_false']
  refine ⟨fun h4=>?_,fun h4=>?_⟩
  ·rw [← hfin 11 (fun _=>rfl) (fun k=>by rw [h4] at k;cases k)]
   exact .oA [] []
  ·rw [← hfin 0 (fun k=>by rw [h4] at k;cases k) (fun _=>rfl)]
   exact .oA [] []
 ·rw [if_neg (by rw [hI];omega),if_pos ⟨k2,hL.2 h3⟩]
  exact .oA [] []
 ·rw [if_neg (by rw [hI];omega),if_neg (by rw [hL];omega),if_neg (by omega)]
  refine C1.im (Zz c) (by rfl) (by rfl) ?_
  simp only [tZ,↓un_u,simprocAttr,Bool.not_eq_true',Bool.not_eq_false']
  refine ⟨fun h4=>?_,fun h4=>?_⟩
  ·rw [← hfin 11 (fun _=>rfl) (fun k=>by rw [h4] at k;cases k)]
   exact .oA [] []
  ·rw [← hfin 0 (fun k=>by rw [h4] at k;cases k) (fun _=>rfl)]
   exact .oA [] []
 ·rw [if_neg (by rw [hI];omega),if_neg (by omega)]
  refine C1.im (Yc c) (by rfl) (by rfl) ?_
  simp only [tZ,↓un_u,simprocAttr,bne_iff_ne,bne_eq_false_iff_eq]
  refine ⟨fun h3=>?_,fun h3=>?_⟩
  ·rw [if_pos ⟨k3,h3⟩]
   exact .oA [] []
  rw [if_neg (by omega)]
  refine C1.im (Zz c) (by rfl) (by rfl) ?_
  simp only [tZ,↓un_u,simprocAttr,Bool.not_eq_true',Bool.not_eq_false']
  refine ⟨fun h4=>?_,fun h4=>?_⟩
  ·rw [← hfin 11 (fun _=>rfl) (fun k=>by rw [h4] at k;cases k)]
   exact .oA [] []
  ·rw [← hfin 0 (fun k=>by rw [h4] at k;cases k) (fun _=>rfl)]
   exact .oA [] []
 ·rw [if_pos (.inl (hI.2 (by omega)))]
  exact .oA [] []
theorem wg (s:Sch) (hn:s.cols.length < 4611686018427387904) (hl:s.lists.length < 4611686018427387904):Spc Tryz.prog jd [schT s] [] (vI (schE s)) []:=by
 refine qd qA1 mixm (by simp) fun e _ hst=>qg ?_
 unfold Zn
 refine sD ?_
 refine ⟨fun h=>?_,fun h=>?_⟩
 ·rw [schE,if_pos (by omega)]
  exact .oA [] []
 have hE1:wH s s.lists.length≠0→schE s = wH s s.lists.length:=fun k=>by rw [schE,if_neg (by omega),if_pos k]
 refine qw mixm (α:=Nat) [21] (fun i=>i≤s.lists.length∧wH s i = 0) (fun i=>[(21,vI i)]) (fun i=>[(4096,.arr 2 [schT s] false)]) (fun i=>s.lists.length - i) 0 ⟨by omega,rfl⟩ ?_ fun i hi=>?_
 ·exact .oA [(4096,some 4096)] []
 obtain ⟨i1,i2⟩:=hi
 refine sD ?_
 refine ⟨fun h2=>?_,fun h2=>?_⟩
 ·have hi2:i < s.lists.length:=by omega
  have hwi:=qj (i:=i) (by omega)
  have hat:s.lists.getD i default = s.lists[i]:=qk hi2
  have hstep:wH s (i + 1) = if lstE s.lists[i]≠0 then lstE s.lists[i] else if ((s.lists.take i).any fun x=>eqB x.name s.lists[i].name) = true then 10 else 0:=by
   rw [wH,if_neg (by rw [i2];simp),hat]
  have hbad:wH s (i + 1)≠0→schE s = wH s (i + 1):=fun k=>by
   have:=qB4 k s.lists.length (by omega)
   rw [hE1 (by rw [this];exact k),this]
  have hCF:=Qa (fun x=>eqB x.name s.lists[i].name) wl [.ip (cdlT s.lists[i]).cells] rfl (s.lists.take i) (fun x _=>qt5 x s.lists[i]) (by rw [List.length_take];omega)
  simp only [tZ,↓un_u,simprocAttr,Int.toNat_natCast,qe hi2,hwi]
  generalize s.lists[i] = c at *
  refine ⟨by omega,?_⟩
  refine C1.im (QN c) (by rfl) (by rfl) ?_
  simp only [tZ,↓un_u,simprocAttr,bne_iff_ne,bne_eq_false_iff_eq]
  refine ⟨fun h3=>?_,fun h3=>?_⟩
  ·rw [if_pos h3] at hstep
   rw [hbad (by rw [hstep];exact h3),hstep]
   exact .oA [] []
  rw [if_neg (by rw [h3];simp)] at hstep
  refine ⟨by omega,?_⟩
  rw [qa4,qM4]
  refine C1.lend [24588] hCF ?_ (by rfl) (by rfl) ?_
  ·all_goals (try simp only [tL,simprocAttr,List.map_append,List.map_cons,List.map_nil,List.cons_append,List.nil_append])
   all_goals (try (repeat' (first | exact qT | (apply zj;intro _;exact ⟨rfl,rfl⟩) | (apply qz;intro _;exact ⟨rfl,rfl⟩) | with_reducible apply qJ | with_reducible refine qM ⟨rfl,rfl⟩ ?_ | exact qW | with_reducible apply qE | with_reducible refine qK ⟨rfl,rfl,?_⟩ ?_ | with_reducible apply And.intro | exact qG rfl | exact qG (by assumption) | (refine ⟨⟨?_,rfl,?_,rfl,?_⟩,trivial⟩ <;> first | (simp;done) | (apply qz;intro _;exact ⟨rfl,rfl⟩)) | trivial | rfl | (rw [qj (by omega)]) | omega)))
   simp only [ltP]
   exact ⟨rfl,by decide,rfl,qM ⟨rfl,rfl⟩ qW⟩
  simp only [tZ,↓un_u,simprocAttr,hwi]
  refine ⟨fun h4=>?_,fun h4=>?_⟩
  ·rw [if_pos h4] at hstep
   rw [hbad (by rw [hstep];simp),hstep]
   exact .oA [] []
  ·rw [if_neg (by rw [h4];simp)] at hstep
   refine ⟨i + 1,⟨by omega,hstep⟩,by omega,?_⟩
   exact .oA [(4096,some 4096)] []
 ·have hil:i = s.lists.length:=by omega
  subst hil
  have hE2:s.cols.length = 0∨(qh s 0).kind≠1→schE s = 7:=fun k=>by rw [schE,if_neg (by omega),if_neg (by rw [i2];simp),if_pos k]
  have hE3:¬ (s.cols.length = 0∨(qh s 0).kind≠1)→schE s = JT s s.cols.length:=fun k=>by rw [schE,if_neg (by omega),if_neg (by rw [i2];simp),if_neg k]
  have hz:((0:Nat):Int) = 0:=rfl
  by_cases h0:s.cols.length = 0
  ·have hn:s.cols = []:=List.length_eq_zero_iff.1 h0
   rw [hE2 (.inl h0)]
   simp only [tZ,↓un_u,simprocAttr,hn,List.length_nil,hz,beq_self_eq_true]
   exact .oA [] []
  ·have h0p:0 < s.cols.length:=by omega
   have e0:((s.cols.length:Int) == 0) = false:=beq_eq_false_iff_ne.2 (by omega)
   have hc0:qh s 0 = s.cols[0]:=by rw [qh,qk h0p]
   simp only [tZ,↓un_u,simprocAttr,e0,qe h0p,bne_iff_ne,bne_eq_false_iff_eq,Bool.false_or]
   refine ⟨by omega,fun h3=>?_,fun h3=>?_⟩
   ·rw [hE2 (.inr (by rw [hc0];exact h3))]
    exact .oA [] []
   have hE4:=hE3 (by rw [hc0];grind)
   refine qw mixm (α:=Nat) [53] (fun i=>i≤s.cols.length∧JT s i = 0) (fun i=>[(53,vI i)]) (fun i=>[(4096,.arr 2 [schT s] false)]) (fun i=>s.cols.length - i) 0 ⟨by omega,rfl⟩ ?_ fun i hi=>?_
   ·exact .oA [(4096,some 4096)] []
   simp only [tZ,↓un_u,simprocAttr,decide_eq_true_eq,decide_eq_false_iff_not]
   refine ⟨fun h=>?_,fun h=>?_⟩
   ·have hi2:i < s.cols.length:=by omega
    have hwi:=qj (i:=i) (by omega)
    have hstep:JT s (i + 1) = colE s i:=by rw [JT,if_neg (by rw [hi.2];simp)]
    refine C1.im (YL s i hi2 hn hl) (by rfl) (by rfl) ?_
    simp only [tZ,↓un_u,simprocAttr,bne_iff_ne,bne_eq_false_iff_eq,hwi]
    refine ⟨fun h4=>?_,fun h4=>?_⟩
    ·have:=qB5 (s:=s) (i:=i + 1) (by rw [hstep];exact h4) s.cols.length (by omega)
     rw [hE4,this,hstep]
     exact .oA [] []
    ·refine ⟨i + 1,⟨by omega,by rw [hstep];exact h4⟩,by omega,?_⟩
     exact .oA [(4096,some 4096)] []
   ·have hil:i = s.cols.length:=by omega
    rw [hE4,← hil,hi.2]
    exact .oA [] []
end Go.Proofs
namespace Go.Proofs
open Go Go.TL
def dgt (n:Nat):UInt8:=UInt8.ofNat (48 + n)
def topC:Cod:=⟨⟨#[116,111,112]⟩,-1⟩
def kidC (i:Nat):Cod:=⟨⟨#[107,dgt i]⟩,0⟩
def lefC (n i:Nat):Cod:=⟨⟨#[108,dgt n]⟩,1 + i⟩
def Wo (k:Nat):List Cod:=topC :: (List.range k).map kidC
def addL (cs:List Cod) (i:Nat):List Cod:=cs ++ [lefC cs.length i]
def lefL:List Cod→Nat→List Nat→List Cod
 | cs,_,[]=>cs
 | cs,i,n :: r=>lefL ((List.range n).foldl (fun cs _=>addL cs i) cs) (i + 1) r
def allN:Nat→List (List Nat)
 | 0=>[[]]
 | n + 1=>(allN n).flatMap fun l=>[1 :: l,2 :: l]
theorem zv2:∀ {n:Nat} {l:List Nat},l.length = n→(∀ x∈l,x = 1∨x = 2)→l∈allN n
 | 0,[],_,_=>by simp [allN]
 | n + 1,x :: l,h,hx=>by
   have h1:=zv2 (n:=n) (l:=l) (by simpa using h) fun y hy=>hx y (List.mem_cons_of_mem _ hy)
   rw [allN,List.mem_flatMap]
   refine ⟨l,h1,?_⟩
   rcases hx x (by simp) with h | h <;> subst h <;> simp
 | 0,_ :: _,h,_=>by simp at h
 | n + 1,[],h,_=>by simp at h
def ze1:ByteArray:=⟨#[111,110,101]⟩
def ze2:ByteArray:=⟨#[116,119,111]⟩
theorem zY7:([ze1,ze2].all fun nm=>[1,2,3].all fun k=>lstE ⟨nm,Wo k⟩ == 0 && (allN k).all fun l=>lstE ⟨nm,lefL (Wo k) 0 l⟩ == 0) = true:=by decide +kernel
structure DrL (nm:ByteArray) (l:CodL):Prop where
 nm:l.name = nm
 ok:lstE l = 0
 len:2≤l.codes.length∧l.codes.length≤10
theorem zQ0 {nm:ByteArray} (hn:nm = ze1∨nm = ze2) {k:Nat} (hk:1≤k∧k≤3):lstE ⟨nm,Wo k⟩ = 0∧∀ l,l.length = k→(∀ x∈l,x = 1∨x = 2)→lstE ⟨nm,lefL (Wo k) 0 l⟩ = 0:=by
 have h1:=List.all_eq_true.1 zY7 nm (by rcases hn with h | h <;> subst h <;> simp)
 have hk3:k∈[1,2,3]:=by
  have:k = 1∨k = 2∨k = 3:=by omega
  rcases this with h | h | h <;> subst h <;> simp
 have h2:=List.all_eq_true.1 h1 k hk3
 rw [Bool.and_eq_true,List.all_eq_true] at h2
 exact ⟨by simpa using h2.1,fun l hl hx=>by simpa using h2.2 l (zv2 hl hx)⟩
end Go.Proofs
namespace Go.Proofs
open Go Go.TL
theorem zv3 {s:Sch}:∀ {n:Nat},(∀ i,i < n→colE s i = 0)→JT s n = 0
 | 0,_=>rfl
 | n + 1,h=>by
   rw [JT,zv3 fun i hi=>h i (by omega),if_neg (by simp)]
   exact h n (by omega)
theorem zQ1 {s:Sch} {i:Nat} (h1:ko (qh s i).name = true) (h2:((s.cols.take i).any fun x=>eqB x.name (qh s i).name) = false) (h3:(qh s i).kind = 3) (h4:(qh s i).list = 0) (h5:measE (qh s i) = 0):colE s i = 0:=by
 rw [colE,if_neg (by rw [h1];simp),if_neg (by rw [h2];simp),if_neg (by rw [h3];simp [inB]),if_neg (by rw [h3];simp),if_neg (by rw [h5];simp),if_neg (by rw [h3,h4];simp)]
theorem qB6 {s:Sch} {i:Nat} (h1:ko (qh s i).name = true) (h2:((s.cols.take i).any fun x=>eqB x.name (qh s i).name) = false) (h3:(qh s i).kind = 2) (h4:inB (qh s i).list 0 (s.lists.length - 1) = true)
 (h5:(qh s i).low = 0∧(qh s i).high = 0∧(qh s i).widths = []∧(qh s i).opt = false):colE s i = 0:=by
 rw [colE,if_neg (by rw [h1];simp),if_neg (by rw [h2];simp),if_neg (by rw [h3];simp [inB]),if_neg (by rw [h4];simp),if_neg (by rw [h3];simp),if_neg (by rw [h3,h5.1,h5.2.1,h5.2.2.1,h5.2.2.2];simp)]
theorem zQ2 {s:Sch} (h1:ko (qh s 0).name = true) (h3:(qh s 0).kind = 1) (h5:(qh s 0).list = 0∧(qh s 0).low = 0∧(qh s 0).high = 0∧(qh s 0).widths = []∧(qh s 0).opt = false):colE s 0 = 0:=by
 rw [colE,if_neg (by rw [h1];simp),if_neg (by simp),if_neg (by rw [h3];simp [inB]),if_neg (by rw [h3];simp),if_neg (by rw [h3];simp),if_neg (by rw [h3,h5.1,h5.2.1,h5.2.2.1,h5.2.2.2.1,h5.2.2.2.2];simp)]
def whoC:Col:=⟨⟨#[119,104,111]⟩,1,0,0,0,[],false⟩
def sexC:Col:=⟨⟨#[115,101,120]⟩,2,0,0,0,[],false⟩
def jobC:Col:=⟨⟨#[106,111,98]⟩,2,1,0,0,[],false⟩
def wTab:List (List Int):=[[1],[1,5],[1,5,20],[1,2,4,12]]
structure DrM (n:Nat) (c:Col):Prop where
 nm:c.name = ⟨#[109,dgt n]⟩
 kind:c.kind = 3
 list:c.list = 0
 low : -4≤c.low∧c.low≤2
 high:c.low≤c.high∧c.high≤c.low + 44
 wid:c.widths∈wTab
theorem DrM.measE {n:Nat} {c:Col} (h:DrM n c):measE c = 0:=by
 have hl:=h.low
 have hh:=h.high
 have hw:=h.wid
 have h1:inB c.low (-1000000) 1000000 = true:=by simp only [inB,Bool.and_eq_true,decide_eq_true_eq];omega
 have h2:inB c.high (-1000000) 1000000 = true:=by simp only [inB,Bool.and_eq_true,decide_eq_true_eq];omega
 have h3:1≤c.widths.length∧c.widths.length≤4∧zY6 c.widths = true:=by
  simp only [wTab,List.mem_cons,List.not_mem_nil,or_false] at hw
  rcases hw with hw | hw | hw | hw <;> rw [hw] <;> decide
 rw [_root_.Go.Proofs.measE,if_neg (by rw [h1,h2];simp;omega),if_neg (by omega),if_neg (by rw [h3.2.2];simp)]
structure DrS (s:Sch):Prop where
 ls:∃ a b,s.lists = [a,b]∧DrL ze1 a∧DrL ze2 b
 cs:∃ ms,(s.cols = whoC :: sexC :: ms∧(∀ i (h:i < ms.length),DrM (2 + i) ms[i])∨s.cols = whoC :: sexC :: jobC :: ms∧∀ i (h:i < ms.length),DrM (3 + i) ms[i])∧1≤ms.length∧ms.length≤3
theorem js0:∀ n:Nat,n < 10→ko ⟨#[109,dgt n]⟩ = true:=by
 have:∀ n:Fin 10,ko ⟨#[109,dgt n.1]⟩ = true:=by decide +kernel
 exact fun n h=>this ⟨n,h⟩
theorem js1:∀ i j:Nat,i < 10→j < 10→i≠j→eqB ⟨#[109,dgt i]⟩ ⟨#[109,dgt j]⟩ = false:=by
 have:∀ i j:Fin 10,i.1≠j.1→eqB ⟨#[109,dgt i.1]⟩ ⟨#[109,dgt j.1]⟩ = false:=by decide +kernel
 exact fun i j hi hj h=>this ⟨i,hi⟩ ⟨j,hj⟩ h
theorem jq3:∀ j:Nat,j < 10→eqB whoC.name ⟨#[109,dgt j]⟩ = false∧eqB sexC.name ⟨#[109,dgt j]⟩ = false∧eqB jobC.name ⟨#[109,dgt j]⟩ = false:=by
 have:∀ j:Fin 10,eqB whoC.name ⟨#[109,dgt j.1]⟩ = false∧eqB sexC.name ⟨#[109,dgt j.1]⟩ = false∧eqB jobC.name ⟨#[109,dgt j.1]⟩ = false:=by decide +kernel
 exact fun j hj=>this ⟨j,hj⟩
theorem jk3 {s:Sch} {a b:CodL} (h:s.lists = [a,b]) (ha:DrL ze1 a) (hb:DrL ze2 b):wH s s.lists.length = 0:=by
 have e1:wH s 1 = 0:=by
  rw [wH,wH,if_neg (by simp),h]
  show (if lstE a≠0 then lstE a else _) = 0
  rw [if_neg (by rw [ha.ok];simp)]
  rfl
 rw [h]
 show wH s 2 = 0
 rw [wH,e1,if_neg (by simp),h]
 show (if lstE b≠0 then lstE b else if ([a].any fun x=>eqB x.name b.name) = true then (10:Int) else 0) = 0
 rw [if_neg (by rw [hb.ok];simp),if_neg]
 simp only [List.any_cons,List.any_nil,Bool.or_false,ha.nm,hb.nm]
 rw [show eqB ze1 ze2 = false by decide +kernel]
 simp
theorem qj0:ko whoC.name = true∧ko sexC.name = true∧ko jobC.name = true∧eqB whoC.name sexC.name = false∧eqB whoC.name jobC.name = false∧eqB sexC.name jobC.name = false∧eqB ze1 ze2 = false:=by decide +kernel
theorem jk4 {s:Sch} {pre ms:List Col} (hl:s.lists.length = 2) (hc:s.cols = pre ++ ms) (hp:pre = [whoC,sexC]∨pre = [whoC,sexC,jobC]) (hm:∀ i (h:i < ms.length),DrM (pre.length + i) ms[i]) (hn:ms.length≤3):JT s s.cols.length = 0:=by
 refine zv3 fun i hi=>?_
 by_cases h:i < pre.length
 ·have ha:qh s i = pre[i]:=by
   rw [qh,hc,List.getD_eq_getElem?_getD,List.getElem?_append_left h,List.getElem?_eq_getElem h];rfl
  have ht:s.cols.take i = pre.take i:=by rw [hc,List.take_append_of_le_length (by omega)]
  rcases hp with hp | hp
  ·subst hp
   have h2:i = 0∨i = 1:=by simp at h;omega
   rcases h2 with h2 | h2 <;> subst h2
   ·exact zQ2 (by rw [ha];exact qj0.1) (by rw [ha];rfl) (by rw [ha];exact ⟨rfl,rfl,rfl,rfl,rfl⟩)
   ·exact qB6 (by rw [ha];exact qj0.2.1) (by rw [ha,ht];show (eqB whoC.name sexC.name || false) = false;rw [qj0.2.2.2.1];rfl) (by rw [ha];rfl) (by rw [ha,hl];rfl) (by rw [ha];exact ⟨rfl,rfl,rfl,rfl⟩)
  ·subst hp
   have h2:i = 0∨i = 1∨i = 2:=by simp at h;omega
   rcases h2 with h2 | h2 | h2 <;> subst h2
   ·exact zQ2 (by rw [ha];exact qj0.1) (by rw [ha];rfl) (by rw [ha];exact ⟨rfl,rfl,rfl,rfl,rfl⟩)
   ·exact qB6 (by rw [ha];exact qj0.2.1) (by rw [ha,ht];show (eqB whoC.name sexC.name || false) = false;rw [qj0.2.2.2.1];rfl) (by rw [ha];rfl) (by rw [ha,hl];rfl) (by rw [ha];exact ⟨rfl,rfl,rfl,rfl⟩)
   ·exact qB6 (by rw [ha];exact qj0.2.2.1) (by rw [ha,ht];show (eqB whoC.name jobC.name || (eqB sexC.name jobC.name || false)) = false;rw [qj0.2.2.2.2.1,qj0.2.2.2.2.2.1];rfl) (by rw [ha];rfl) (by rw [ha,hl];rfl) (by rw [ha];exact ⟨rfl,rfl,rfl,rfl⟩)
 ·have hi2:i - pre.length < ms.length:=by rw [hc,List.length_append] at hi;omega
  have hpl:pre.length≤3:=by rcases hp with hp | hp <;> subst hp <;> simp
  have ha:qh s i = ms[i - pre.length]:=by
   rw [qh,hc,List.getD_eq_getElem?_getD,List.getElem?_append_right (by omega),List.getElem?_eq_getElem hi2];rfl
  have d:=hm _ hi2
  rw [show pre.length + (i - pre.length) = i by omega] at d
  refine zQ1 (by rw [ha,d.nm];exact js0 i (by omega)) ?_ (by rw [ha];exact d.kind) (by rw [ha];exact d.list) (by rw [ha];exact d.measE)
  rw [ha,d.nm,hc,List.any_eq_false]
  intro x hx
  rw [List.take_append] at hx
  rcases List.mem_append.1 hx with hx | hx
  ·have hx:=List.mem_of_mem_take hx
   have hf:=jq3 i (by omega)
   have:x = whoC∨x = sexC∨x = jobC:=by
    rcases hp with hp | hp <;> subst hp <;> simp at hx <;> rcases hx with h | h | h <;> simp [h]
   rcases this with h | h | h <;> subst h <;> simp [hf.1,hf.2.1,hf.2.2]
  ·obtain ⟨j,hj,rfl⟩:=List.mem_take_iff_getElem.1 hx
   have dj:=hm j (by omega)
   rw [dj.nm,js1 (pre.length + j) i (by omega) (by omega) (by omega)]
   simp
theorem DrS.ok {s:Sch} (h:DrS s):schE s = 0:=by
 obtain ⟨a,b,hl,ha,hb⟩:=h.ls
 obtain ⟨ms,hc,hm1,hm3⟩:=h.cs
 have h2:s.lists.length = 2:=by rw [hl];rfl
 have key:∀ pre:List Col,(pre = [whoC,sexC]∨pre = [whoC,sexC,jobC])→s.cols = pre ++ ms→(∀ i (h:i < ms.length),DrM (pre.length + i) ms[i])→schE s = 0:=by
  intro pre hp hc hd
  have hpl:2≤pre.length∧pre.length≤3:=by rcases hp with hp | hp <;> subst hp <;> simp
  have h0:(qh s 0).kind = 1:=by
   rw [qh,hc]
   rcases hp with hp | hp <;> subst hp <;> rfl
  rw [schE,if_neg (by rw [h2,hc,List.length_append];omega),if_neg (by rw [jk3 hl ha hb];simp),if_neg (by rw [hc,List.length_append];omega)]
  exact jk4 h2 hc hp hd hm3
 rcases hc with ⟨hc,hd⟩ | ⟨hc,hd⟩
 ·exact key [whoC,sexC] (.inl rfl) hc hd
 ·exact key [whoC,sexC,jobC] (.inr rfl) hc hd
end Go.Proofs
namespace Go.Proofs
open Go Go.TL
theorem zl4 {l:CodL} (h:lstE l = 0) {lev v:Int}:v∈atL l lev↔∃ i:Nat,i < l.codes.length∧(dep l.codes i:Int) = lev∧v = (i:Int):=by
 rw [atL,if_neg (by rw [h];simp)]
 simp only [List.mem_map,List.mem_filter,List.mem_range,beq_iff_eq]
 constructor
 ·rintro ⟨i,⟨h1,h2⟩,rfl⟩;exact ⟨i,h1,h2,rfl⟩
 ·rintro ⟨i,h1,h2,rfl⟩;exact ⟨i,⟨h1,h2⟩,rfl⟩
theorem qj1 {l:CodL} (h:lstE l = 0):zk l - 1 = (dep l.codes (l.codes.length - 1):Int):=by
 rw [zk,if_neg (by rw [h];simp)]
 omega
theorem zQ3 {l:CodL} (h:lstE l = 0):0 < (atL l (zk l - 1)).length:=by
 obtain ⟨_,h1,_⟩:=zc h
 have:((l.codes.length - 1:Nat):Int)∈atL l (zk l - 1):=(zl4 h).2 ⟨l.codes.length - 1,by omega,(qj1 h).symm,rfl⟩
 exact List.length_pos_of_mem this
theorem QX {s:Sch} {i:Nat} (hk:(qh s i).kind = 2) (hl:lstE (qH s i) = 0) {v:Int} (hv:v∈qQ s i):zN s i v = true:=by
 obtain ⟨j,h1,h2,rfl⟩:=(zl4 hl).1 hv
 rw [zN,if_neg (by rw [hk];decide),if_pos hk,Bool.and_eq_true]
 refine ⟨by simp only [inB,Bool.and_eq_true,decide_eq_true_eq];omega,?_⟩
 rw [beq_iff_eq,lvlC,if_neg (by rw [hl];omega),Int.toNat_natCast,h2]
theorem ze3 {s:Sch}:∀ {n:Nat},JT s n = 0→∀ i,i < n→colE s i = 0
 | 0,_,i,h=>by omega
 | n + 1,h,i,hi=>by
   rw [JT] at h
   split at h
   ·rename_i h2;exact absurd h h2
   ·rename_i h2
    by_cases e:i = n
    ·rw [e];exact h
    ·exact ze3 (Classical.byContradiction h2) i (by omega)
theorem ze4 {s:Sch}:∀ {n:Nat},wH s n = 0→∀ i,i < n→lstE (s.lists.getD i default) = 0
 | 0,_,i,h=>by omega
 | n + 1,h,i,hi=>by
   rw [wH] at h
   split at h
   ·rename_i h2;exact absurd h h2
   ·rename_i h2
    split at h
    ·rename_i h3;exact absurd h h3
    ·rename_i h3
     by_cases e:i = n
     ·rw [e];exact Classical.byContradiction h3
     ·exact ze4 (Classical.byContradiction h2) i (by omega)
structure SchOk (s:Sch):Prop where
 nl:s.lists.length≤6
 nc:1≤s.cols.length∧s.cols.length≤8
 ls:∀ i,i < s.lists.length→lstE (s.lists.getD i default) = 0
 c0:(qh s 0).kind = 1
 cs:∀ i,i < s.cols.length→colE s i = 0
theorem qZ {s:Sch} (h:schE s = 0):SchOk s:=by
 unfold schE at h
 split at h
 ·cases h
 ·split at h
  ·rename_i h2;exact absurd h h2
  ·split at h
   ·cases h
   ·rename_i h1 h2 h3
    refine ⟨by omega,by omega,ze4 (Classical.byContradiction h2),?_,ze3 h⟩
    exact Classical.byContradiction fun e=>h3 (.inr e)
theorem za {s:Sch} {i:Nat} (h:colE s i = 0):1≤(qh s i).kind∧(qh s i).kind≤3∧(0 < i→(qh s i).kind≠1)∧((qh s i).kind = 2→0≤(qh s i).list∧(qh s i).list < s.lists.length)∧((qh s i).kind = 3→measE (qh s i) = 0):=by
 unfold colE at h
 split at h
 ·cases h
 ·split at h
  ·cases h
  ·split at h
   ·cases h
   ·split at h
    ·cases h
    ·rename_i h1 h2 h3 h4
     have hk:inB (qh s i).kind 1 3 = true:=by
      cases e:inB (qh s i).kind 1 3 with
      | true=>rfl
      | false=>exact absurd (.inl e) h3
     simp only [inB,Bool.and_eq_true,decide_eq_true_eq] at hk
     refine ⟨hk.1,hk.2,fun h0 e=>h3 (.inr ⟨h0,e⟩),fun e=>?_,fun e=>?_⟩
     ·have:inB (qh s i).list 0 (s.lists.length - 1) = true:=by
       cases e2:inB (qh s i).list 0 (s.lists.length - 1) with
       | true=>rfl
       | false=>exact absurd ⟨e,e2⟩ h4
      simp only [inB,Bool.and_eq_true,decide_eq_true_eq] at this
      omega
     ·split at h
      ·rename_i h5;exact absurd h h5.2
      ·rename_i h5
       exact Classical.byContradiction fun e2=>h5 ⟨e,e2⟩
theorem SchOk.cdl {s:Sch} (h:SchOk s) {i:Nat} (hi:i < s.cols.length) (hk:(qh s i).kind = 2):(qh s i).list.toNat < s.lists.length∧lstE (qH s i) = 0:=by
 have h1:=(za (h.cs i hi)).2.2.2.1 hk
 exact ⟨by omega,h.ls _ (by omega)⟩
end Go.Proofs
namespace Go.Proofs
open Go Go.TL
theorem SchOk.sm {s:Sch} (h:SchOk s):QO s:=by
 have h1:=h.nl
 have h2:=h.nc
 refine ⟨by omega,by omega,fun l hl=>?_⟩
 obtain ⟨i,hi,rfl⟩:=List.getElem_of_mem hl
 have h3:=h.ls i hi
 rw [qk hi] at h3
 have:=(zc h3).2.2
 omega
theorem qc8 {l:CodL} : -1≤zk l∧zk l≤60:=by
 unfold zk
 split
 ·omega
 ·rename_i h
  obtain ⟨hp,h1,h2⟩:=zc (Classical.byContradiction h)
  have:=qr1 hp (l.codes.length - 1) (by omega)
  omega
theorem KN (s:Sch) (h:SchOk s) (i:Nat) (hi:i < s.cols.length) (v:Int):Spc Tryz.prog wP [schT s,vI i,vI v] [] (vB (zN s i v)) []:=by
 have hat:qh s i = s.cols[i]:=by rw [qh,qk hi]
 have hk:=za (h.cs i hi)
 have hcd:=fun e=>h.cdl hi e
 have hE:zN s i v = if s.cols[i].kind = 1 then inB v 1 1048575
  else if s.cols[i].kind = 2 then inB v 0 ((qH s i).codes.length - 1) && (lvlC (qH s i) v == zk (qH s i) - 1)
  else (s.cols[i].opt && (v == kT)) || inB v s.cols[i].low s.cols[i].high:=by rw [zN,hat]
 have hcl:qH s i = s.lists.getD s.cols[i].list.toNat default:=by rw [qH,hat]
 rw [hat] at hk hcd
 rw [hE]
 rw [hcl] at hcd ⊢
 refine qd qE4 mixm (by simp) fun e _ hst=>qg ?_
 unfold ZY
 simp only [tZ,↓un_u,simprocAttr,Int.toNat_natCast,qe hi]
 generalize s.cols[i] = c at hk hcd ⊢
 simp only [tZ,↓un_u,simprocAttr,beq_iff_eq,beq_eq_false_iff_ne]
 refine ⟨by omega,fun h1=>?_,fun h1=>⟨fun h2=>?_,fun h2=>?_⟩⟩
 ·rw [if_pos h1]
  refine C1.im (jK v 1 1048575) (by rfl) (by rfl) ?_
  refine sW ?_
  exact .oA [] []
 ·obtain ⟨d1,d2⟩:=hcd h2
  obtain ⟨d3,d4⟩:=hk.2.2.2.1 h2
  have hgl:s.lists.getD c.list.toNat default = s.lists[c.list.toNat]:=qk d1
  rw [if_neg h1,if_pos h2]
  rw [hgl] at d2 ⊢
  obtain ⟨_,d5,d6⟩:=zc d2
  simp only [tZ,↓un_u,simprocAttr,qe d1]
  generalize s.lists[c.list.toNat] = l at d2 d5 d6 ⊢
  have hw:IntKind.i64.wrap ((l.codes.length:Int) - 1) = (l.codes.length:Int) - 1:=IntWalk.i64_in _ (by omega)
  have hlv:=qc8 (l:=l)
  have hw2:IntKind.i64.wrap (zk l - 1) = zk l - 1:=IntWalk.i64_in _ (by omega)
  simp only [tZ,↓un_u,simprocAttr,hw]
  refine ⟨by omega,?_⟩
  refine C1.im (jK v 0 _) (by rfl) (by rfl) ?_
  refine sW ?_
  refine C2.im (fun _=>KL l v (by omega)) (fun _=>rfl) (by rfl) ?_
  refine sW ?_
  refine C2.im (fun _=>Jw l (by omega)) (fun _=>rfl) (by rfl) ?_
  simp only [tZ,↓un_u,simprocAttr,hw2]
  refine ⟨by kernel_rfl,?_⟩
  exact .oA [] []
 ·rw [if_neg h1,if_neg h2]
  refine C2.im (fun _=>jK v c.low c.high) (fun _=>rfl) (by rfl) ?_
  refine sW ?_
  rw [show (c.opt && v == -1099511627776) = (c.opt && (v == kT)) from rfl]
  exact .oA [] []
theorem Jy (s:Sch) (hs:QO s) (c:Int):Spc Tryz.prog kV [schT s,vI c] [] (vI (finI s c)) []:=by
 have hs2:=hs.2.1
 refine qd qz1 mixm (by simp) fun e _ hst=>qg ?_
 unfold Zi
 refine sW ?_
 refine C1.im (QP s hs) (by rfl) (by rfl) ?_
 simp only [tZ,↓un_u,simprocAttr,tD,bne_iff_ne,bne_eq_false_iff_eq]
 refine ⟨fun h=>?_,fun h=>?_⟩
 ·rw [finI,if_pos (by omega)]
  exact .oA [] []
 have hok:=qZ h.1.1
 obtain ⟨i,rfl⟩:=Int.eq_ofNat_of_zero_le (show 0≤c by omega)
 have hi:i < s.cols.length:=by omega
 have hat:qh s i = s.cols[i]:=by rw [qh,qk hi]
 have hk:=za (hok.cs i hi)
 have hcd:=fun e=>hok.cdl hi e
 have hcl:qH s i = s.lists.getD s.cols[i].list.toNat default:=by rw [qH,hat]
 rw [hat] at hk hcd
 rw [hcl] at hcd
 rw [finI,if_neg (by omega),Int.toNat_natCast,hcl,hat]
 simp only [tZ,↓un_u,simprocAttr,Int.toNat_natCast,qe hi]
 generalize s.cols[i] = x at hk hcd ⊢
 simp only [tZ,↓un_u,simprocAttr,beq_iff_eq,beq_eq_false_iff_ne]
 refine ⟨by omega,fun h2=>?_,fun h2=>?_⟩
 ·obtain ⟨d1,d2⟩:=hcd h2
  obtain ⟨d3,d4⟩:=hk.2.2.2.1 h2
  have hgl:s.lists.getD x.list.toNat default = s.lists[x.list.toNat]:=qk d1
  rw [if_pos h2]
  rw [hgl] at d2 ⊢
  obtain ⟨_,d5,d6⟩:=zc d2
  simp only [tZ,↓un_u,simprocAttr,qe d1]
  generalize s.lists[x.list.toNat] = l at d2 d5 d6 ⊢
  have hlv:=qc8 (l:=l)
  have hw2:IntKind.i64.wrap (zk l - 1) = zk l - 1:=IntWalk.i64_in _ (by omega)
  refine ⟨by omega,?_⟩
  refine C1.im (Jw l (by omega)) (by rfl) (by rfl) ?_
  simp only [tZ,↓un_u,simprocAttr,hw2]
  exact .oA [] []
 ·rw [if_neg h2]
  exact .oA [] []
theorem zv4 {a b:Int} (hb:0 < b):qA a b = if a.tmod b < 0 then a.tdiv b - 1 else a.tdiv b:=by
 have h1:=Int.mul_tdiv_add_tmod a b
 have h2:=Int.tmod_lt_of_pos a hb
 have h3:=Int.lt_tmod_of_pos a hb
 unfold qA
 rw [Int.fdiv_eq_ediv_of_nonneg _ (by omega)]
 split
 ·refine ((Int.ediv_emod_unique (r:=a.tmod b + b) hb).2 ⟨?_,by omega,by omega⟩).1
  rw [Int.mul_sub];omega
 ·refine ((Int.ediv_emod_unique (r:=a.tmod b) hb).2 ⟨by omega,by omega,by omega⟩).1
theorem qS5 (a b:Int) (hb:0 < b) (ha : -4611686018427387904 < a∧a < 4611686018427387904):Spc Tryz.prog Km [vI a,vI b] [] (vI (qA a b)) []:=by
 rw [zv4 hb]
 have hq:=Int.natAbs_tdiv_le_natAbs a b
 have hw:IntKind.i64.wrap (a.tdiv b) = a.tdiv b:=IntWalk.i64_in _ (by omega)
 have hw2:IntKind.i64.wrap (a.tdiv b - 1) = a.tdiv b - 1:=IntWalk.i64_in _ (by omega)
 refine qd qF0 mixm (by simp) fun e _ hst=>qg ?_
 unfold Jb
 simp only [tZ,↓un_u,simprocAttr,hw,hw2,tD]
 refine ⟨by omega,by omega,fun h=>?_,fun h=>?_⟩
 ·rw [if_pos h]
  exact .oA [] []
 ·rw [if_neg h]
  exact .oA [] []
theorem qS6 (c:Col) (lev:Int) (h1:1≤lev∧lev≤c.widths.length) (h2:c.widths.length < 4611686018427387904):Spc Tryz.prog Kl [colT c,vI lev] [] (vI (qS c lev)) []:=by
 have hw:IntKind.i64.wrap ((c.widths.length:Int) - lev) = (c.widths.length:Int) - lev:=IntWalk.i64_in _ (by omega)
 have hk:((c.widths.length:Int) - lev).toNat < c.widths.length:=by omega
 refine qd qE8 mixm (by simp) fun e _ hst=>qg ?_
 unfold Ja
 simp only [tZ,↓un_u,simprocAttr,hw,qe hk]
 rw [qS,qk hk]
 refine ⟨by omega,?_⟩
 exact .oA [] []
end Go.Proofs
