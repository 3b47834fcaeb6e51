/- A part of the proof: trees of Go values, short forms, contracts. -/
import Derived.WalkKit
import Derived.Still
import Derived.MapKept
import GoSem.Builtin.Cap
import Derived.Laws.Externs
import GoSem.Extern.SlicesOverlaps
import Derived.Carry
import Derived.ProofKit
import Derived.OpenShut
import Derived.HandedShaped
import Derived.Lay
import Derived.LaidLaws
import Derived.MakeChecks
import Derived.SevenTiedAt
import Derived.Test.YtiddpnhnaooohaaGreatDoorChecked
import Derived.Test.YtiddpnhnaooohaaGreatDoorK15
set_option linter.unusedSimpArgs false
set_option linter.unusedVariables false
namespace Go.Proofs
open Go Go.TL
theorem ky (n lo hi:Int):Spc Tryz.prog je [vI n,vI lo,vI hi] [] (vB (inB n lo hi)) []:=by
 refine qe zb8 mixm (by simp) fun e _ hst=>qo ?_
 unfold Yv
 refine sW ?_
 rw [show (decide (lo≤n) && decide (n≤hi)) = inB n lo hi from rfl]
 exact .oA [] []
theorem qW5 {ws:List Int}:∀ {i:Nat},(∀ j,j < i→wdOk ws j = true)→∀ j,j < i→1≤ws.getD j 0
 | 0,_,j,h=>by omega
 | i + 1,hw,j,h=>by
   have ih:=qW5 (ws:=ws) (i:=i) fun j hj=>hw j (by omega)
   have:=hw j h
   unfold wdOk at this
   split at this
   ·rename_i e;subst e
    have:ws.getD 0 0 = 1:=by simpa using this
    omega
   ·simp only [Bool.and_eq_true,decide_eq_true_eq] at this
    have:=ih (j - 1) (by omega)
    omega
theorem qw3 (c:Col):Spc Tryz.prog QO [colT c] [] (vI (measE c)) []:=by
 refine qe qn7 mixm (by simp) fun e _ hst=>qo ?_
 unfold Qp
 refine sW ?_
 refine C1.im (ky c.low (-1000000) 1000000) (by rfl) (by rfl) ?_
 refine sW ?_
 refine C2.im (fun _=>ky c.high (-1000000) 1000000) (fun _=>rfl) (by rfl) ?_
 simp only [tZ,↓un_u,simprocAttr,tD,Bool.not_eq_true',Bool.not_eq_false']
 refine ⟨fun h=>?_,fun h=>?_⟩
 ·rw [measE,if_pos (by grind)]
  exact .oA [] []
 ·refine ⟨fun h2=>?_,fun h2=>?_⟩
  ·rw [measE,if_neg (by grind),if_pos (by grind)]
   exact .oA [] []
  ·have hm:measE c = if zR3 c.widths = false then 2 else 0:=by rw [measE,if_neg (by grind),if_neg (by grind)]
   refine qE mixm (α:=Nat) [3] (fun i=>i≤c.widths.length∧(∀ j,j < i→wdOk c.widths j = true)) (fun i=>[(3,vI i)]) (fun i=>[(4096,.arr 7 [colT c] false)]) (fun i=>c.widths.length - i) 0 ⟨by omega,?_⟩ ?_ fun i hi=>?_
   ·intro j hj;omega
   ·exact .oA [(4096,some 4096)] []
   have hbad:i < c.widths.length→wdOk c.widths i = false→measE c = 2:=fun h1 h2=>by
    rw [hm,if_pos]
    exact List.all_eq_false.2 ⟨i,List.mem_range.2 h1,by rw [h2];simp⟩
   have hok:wdOk c.widths i = true→∀ j,j < i + 1→wdOk c.widths j = true:=fun h1 j hj=>by
    by_cases e:j = i
    ·rw [e];exact h1
    ·exact hi.2 j (by omega)
   simp only [tZ,↓un_u,simprocAttr,decide_eq_true_eq,decide_eq_false_iff_not]
   refine ⟨fun h=>?_,fun h=>?_⟩
   ·rcases Nat.eq_zero_or_pos i with h0 | h0
    ·subst h0
     have hw0:wdOk c.widths 0 = (c.widths.getD 0 0 == 1):=by rw [wdOk,if_pos rfl]
     have hlen:0 < c.widths.length:=by omega
     rw [qj hlen] at hw0
     have hz:((0:Nat):Int) = 0:=rfl
     have hz2:(IntKind.i64.wrap (-1)).toNat = 0:=by decide
     have hz3:=qr (i:=0) (by omega)
     rw [hz] at hz3
     simp only [tZ,↓un_u,simprocAttr,Int.toNat_natCast,hz,beq_self_eq_true,gt_iff_lt,Int.lt_irrefl,Bool.true_and,hz2,qg hlen,hz3]
     refine ⟨by omega,fun h3=>?_,fun h3=>?_⟩
     ·rw [hbad hlen (by rw [hw0];simpa using h3)]
      exact .oA [] []
     ·refine ⟨1,⟨by omega,hok (by rw [hw0];simpa using h3)⟩,by omega,?_⟩
      exact .oA [(4096,some 4096)] []
    ·obtain ⟨k,rfl⟩:∃ k,i = k + 1:=⟨i - 1,by omega⟩
     have hk2:k + 1 < c.widths.length:=by omega
     have hk3:k < c.widths.length:=by omega
     have e1:(((k + 1:Nat):Int) == 0) = false:=beq_eq_false_iff_ne.2 (by omega)
     have e2:decide (((k + 1:Nat):Int) > 0) = true:=decide_eq_true (by omega)
     have hw1:wdOk c.widths (k + 1) = (decide (c.widths[k] < c.widths[k + 1]) && decide (c.widths[k + 1]≤1000000) && (c.widths[k + 1].tmod c.widths[k] == 0)):=by
          rw [wdOk,if_neg (by omega),Nat.add_sub_cancel,qj hk2,qj hk3]
     have hp1:=qW5 (ws:=c.widths) hi.2 k (by omega)
     rw [qj hk3] at hp1
     have hws:=qr (i:=k + 1) (by omega)
     have e3:=Jz (i:=k + 1) (by omega) (by omega)
     rw [Nat.add_sub_cancel] at e3
     simp only [tZ,↓un_u,simprocAttr,Int.toNat_natCast,qg hk2,qg hk3,e1,e2,e3,hws]
     refine ⟨by omega,by omega,fun _=>by omega,fun _=>by omega,fun h3=>?_,fun h3=>?_⟩
     ·rw [hbad hk2 (by rw [hw1];grind)]
      exact .oA [] []
     ·refine ⟨k + 2,⟨by omega,hok (by rw [hw1];grind)⟩,by omega,?_⟩
      exact .oA [(4096,some 4096)] []
   ·have hi2:i = c.widths.length:=by omega
    subst hi2
    rw [hm,if_neg]
    ·exact .oA [] []
    ·rw [Bool.not_eq_false]
     exact List.all_eq_true.2 fun j hj=>hi.2 j (List.mem_range.1 hj)
theorem qC0 (s:Sch) (i:Nat) (hi:i < s.cols.length) (hn:s.cols.length < 4611686018427387904) (hl:s.lists.length < 4611686018427387904):Spc Tryz.prog Zy [schT s,vI i] [] (vI (colE s i)) []:=by
 have hat:qd s i = s.cols[i]:=by rw [qd,qj hi]
 have hE:colE s i = if kf s.cols[i].name = false then 3
  else if ((s.cols.take i).any fun x=>eqB x.name s.cols[i].name) = true then 10
  else if inB s.cols[i].kind 1 3 = false∨(0 < i∧s.cols[i].kind = 1) then 4
  else if s.cols[i].kind = 2∧inB s.cols[i].list 0 (s.lists.length - 1) = false then 5
  else if s.cols[i].kind = 3∧measE s.cols[i]≠0 then measE s.cols[i]
  else if (s.cols[i].kind≠2∧s.cols[i].list≠0)∨(s.cols[i].kind≠3∧(s.cols[i].low≠0∨s.cols[i].high≠0∨0 < s.cols[i].widths.length∨s.cols[i].opt = true)) then 11 else 0:=by rw [colE,hat]
 rw [hE]
 refine qe qv7 mixm (by simp) fun e _ hst=>qo ?_
 unfold Zd
 simp only [tZ,↓un_u,simprocAttr,Int.toNat_natCast,qg hi]
 generalize s.cols[i] = c
 refine ⟨by omega,?_⟩
 refine C1.im (Wg c.name) (by rfl) (by rfl) ?_
 simp only [tZ,↓un_u,simprocAttr,Bool.not_eq_true',Bool.not_eq_false']
 refine ⟨fun h=>?_,fun h=>?_⟩
 ·rw [if_pos h]
  exact .oA [] []
 rw [if_neg (by rw [h];simp)]
 refine qE mixm (α:=Nat) [6] (fun k=>k≤i∧(s.cols.take k).any (fun x=>eqB x.name c.name) = false) (fun k=>[(6,vI k)]) (fun k=>[(4096,.arr 2 [schT s] false),(8212,.arr 7 [colT c] false)]) (fun k=>i - k) 0 ⟨by omega,rfl⟩ ?_ fun k hk=>?_
 ·exact .oA [(4096,some 4096),(8212,some 8212)] []
 simp only [tZ,↓un_u,simprocAttr,decide_eq_true_eq,decide_eq_false_iff_not]
 refine ⟨fun h=>?_,fun h=>?_⟩
 ·have hk2:k < s.cols.length:=by omega
  have hwk:=qr (i:=k) (by omega)
  simp only [tZ,↓un_u,simprocAttr,Int.toNat_natCast,qg hk2,hwk]
  refine ⟨by omega,by kernel_rfl,fun h7=>?_,fun h7=>?_⟩
  ·rw [if_pos (List.any_eq_true.2 ⟨s.cols[k],List.mem_take_iff_getElem.2 ⟨k,by omega,rfl⟩,h7⟩)]
   exact .oA [] []
  ·refine ⟨k + 1,⟨by omega,kh hk2 hk.2 h7⟩,by omega,?_⟩
   exact .oA [(4096,some 4096),(8212,some 8212)] []
 ·have hki:k = i:=by omega
  subst hki
  rw [if_neg (by rw [hk.2];simp)]
  refine C1.im (ky c.kind 1 3) (by rfl) (by rfl) ?_
  simp only [tZ,↓un_u,simprocAttr,tD,Bool.not_eq_true',Bool.not_eq_false',beq_iff_eq,beq_eq_false_iff_ne]
  refine ⟨fun h7=>?_,fun h7=>?_⟩
  ·rw [if_pos (by grind)]
   exact .oA [] []
  rw [if_neg (by grind)]
  have hw:IntKind.i64.wrap ((s.lists.length:Int) - 1) = (s.lists.length:Int) - 1:=IntWalk.i64_in _ (by omega)
  simp only [tZ,↓un_u,simprocAttr,hw]
  refine C2.im (fun _=>ky c.list 0 ((s.lists.length:Int) - 1)) (fun _=>rfl) (by rfl) ?_
  simp only [tZ,↓un_u,simprocAttr,tD,Bool.not_eq_true',Bool.not_eq_false',beq_iff_eq,beq_eq_false_iff_ne]
  refine ⟨fun h8=>?_,fun h8=>?_⟩
  ·rw [if_pos (by grind)]
   exact .oA [] []
  rw [if_neg (by grind)]
  have hend:∀ v:Int,(if c.kind = 3∧¬measE c = 0 then measE c else if ¬c.kind = 2∧¬c.list = 0∨¬c.kind = 3∧(¬c.low = 0∨¬c.high = 0∨0 < c.widths.length∨c.opt = true) then 11 else 0) = v→QL [] (T.v (Value.int IntKind.i64 v)) [(4096,Ob.arr 2 [schT s] false),(8212,Ob.arr 7 [colT c] false)] (vI (if c.kind = 3∧¬measE c = 0 then measE c else if ¬c.kind = 2∧¬c.list = 0∨¬c.kind = 3∧(¬c.low = 0∨¬c.high = 0∨0 < c.widths.length∨c.opt = true) then 11 else 0)) []:=fun v hv=>by
   rw [hv]
   exact .oA [] []
  refine ⟨fun h9=>?_,fun h9=>?_⟩
  ·refine C1.im (qw3 c) (by rfl) (by rfl) ?_
   simp only [tZ,↓un_u,simprocAttr,bne_iff_ne,bne_eq_false_iff_eq]
   refine ⟨fun h10=>hend _ (by rw [if_pos ⟨h9,h10⟩]),fun h10=>?_⟩
   simp only [tZ,↓un_u,simprocAttr,tD,bne_iff_ne,bne_eq_false_iff_eq]
   exact ⟨fun h11=>hend _ (by rw [if_neg (by grind),if_pos (by grind)]),fun h11=>hend _ (by rw [if_neg (by grind),if_neg (by grind)])⟩
  ·simp only [tZ,↓un_u,simprocAttr,tD,bne_iff_ne,bne_eq_false_iff_eq]
   exact ⟨fun h11=>hend _ (by rw [if_neg (by grind),if_pos (by grind)]),fun h11=>hend _ (by rw [if_neg (by grind),if_neg (by grind)])⟩
theorem qw4 {s:Sch} {i:Nat} (h:wx s i≠0):∀ n,i≤n→wx s n = wx s i:=by
 intro n hn
 induction n with
 | zero=>have:i = 0:=by omega
         rw [this]
 | succ n ih=>
   by_cases e:i = n + 1
   ·rw [e]
   ·have:=ih (by omega)
    rw [wx,this,if_pos h]
theorem qw5 {s:Sch} {i:Nat} (h:Jj s i≠0):∀ n,i≤n→Jj s n = Jj s i:=by
 intro n hn
 induction n with
 | zero=>have:i = 0:=by omega
         rw [this]
 | succ n ih=>
   by_cases e:i = n + 1
   ·rw [e]
   ·have:=ih (by omega)
    rw [Jj,this,if_pos h]
def Jk (s:Sch):Prop:=s.lists.length < 4611686018427387904∧s.cols.length < 4611686018427387904∧∀ l∈s.lists,l.codes.length < 4611686018427387904
theorem qK4 (s:Sch) (hs:Jk s):Spc Tryz.prog JF [schT s] [] (vI (schE s)) []:=by
 obtain ⟨hs1,hs2,hs3⟩:=hs
 refine qe qz8 mixm (by simp) fun e _ hst=>qo ?_
 unfold ZE
 refine sD ?_
 refine ⟨fun h=>?_,fun h=>?_⟩
 ·rw [schE,if_pos (by omega)]
  exact .oA [] []
 have hE1:wx s s.lists.length≠0→schE s = wx s s.lists.length:=fun k=>by rw [schE,if_neg (by omega),if_pos k]
 refine qE mixm (α:=Nat) [3,17] (fun i=>i≤s.lists.length∧wx s i = 0) (fun i=>[(3,vI i)]) (fun i=>[(4096,.arr 2 [schT s] false)]) (fun i=>s.lists.length - i) 0 ⟨by omega,rfl⟩ ?_ fun i hi=>?_
 ·exact .oA [(4096,some 4096)] []
 obtain ⟨i1,i2⟩:=hi
 refine sD ?_
 refine ⟨fun h2=>?_,fun h2=>?_⟩
 ·have hi2:i < s.lists.length:=by omega
  have hwi:=qr (i:=i) (by omega)
  have hat:s.lists.getD i default = s.lists[i]:=qj hi2
  have hstep:wx s (i + 1) = if lstE s.lists[i]≠0 then lstE s.lists[i] else if ((s.lists.take i).any fun x=>eqB x.name s.lists[i].name) = true then 10 else 0:=by
   rw [wx,if_neg (by rw [i2];simp),hat]
  have hbad:wx s (i + 1)≠0→schE s = wx s (i + 1):=fun k=>by
   have:=qw4 k s.lists.length (by omega)
   rw [hE1 (by rw [this];exact k),this]
  simp only [tZ,↓un_u,simprocAttr,Int.toNat_natCast,qg hi2,hwi]
  refine ⟨by omega,?_⟩
  refine C1.im (yb s.lists[i] (hs3 _ (List.getElem_mem hi2))) (by rfl) (by rfl) ?_
  simp only [tZ,↓un_u,simprocAttr,bne_iff_ne,bne_eq_false_iff_eq]
  refine ⟨fun h3=>?_,fun h3=>?_⟩
  ·rw [if_pos h3] at hstep
   rw [hbad (by rw [hstep];exact h3),hstep]
   exact .oA [] []
  rw [if_neg (by rw [h3];simp)] at hstep
  refine qE mixm (α:=Nat) [5] (fun k=>k≤i∧(s.lists.take k).any (fun x=>eqB x.name s.lists[i].name) = false) (fun k=>[(5,vI k)]) (fun k=>[(4096,.arr 2 [schT s] false)]) (fun k=>i - k) 0 ⟨by omega,rfl⟩ ?_ fun k hk=>?_
  ·exact .oA [(4096,some 4096)] []
  simp only [tZ,↓un_u,simprocAttr,decide_eq_true_eq,decide_eq_false_iff_not]
  refine ⟨fun h=>?_,fun h=>?_⟩
  ·have hk2:k < s.lists.length:=by omega
   have hwk:=qr (i:=k) (by omega)
   simp only [tZ,↓un_u,simprocAttr,Int.toNat_natCast,qg hk2,qg hi2,hwk]
   refine ⟨by omega,by omega,by kernel_rfl,fun h7=>?_,fun h7=>?_⟩
   ·rw [if_pos (List.any_eq_true.2 ⟨s.lists[k],List.mem_take_iff_getElem.2 ⟨k,by omega,rfl⟩,h7⟩)] at hstep
    rw [hbad (by rw [hstep];simp),hstep]
    exact .oA [] []
   ·refine ⟨k + 1,⟨by omega,kh hk2 hk.2 h7⟩,by omega,?_⟩
    exact .oA [(4096,some 4096)] []
  ·have hki:k = i:=by omega
   subst hki
   rw [if_neg (by rw [hk.2];simp)] at hstep
   simp only [tZ,↓un_u,simprocAttr,hwi]
   refine ⟨k + 1,⟨by omega,hstep⟩,by omega,?_⟩
   exact .oA [(4096,some 4096)] []
 ·have hil:i = s.lists.length:=by omega
  subst hil
  have hE2:s.cols.length = 0∨(qd s 0).kind≠1→schE s = 7:=fun k=>by rw [schE,if_neg (by omega),if_neg (by rw [i2];simp),if_pos k]
  have hE3:¬ (s.cols.length = 0∨(qd s 0).kind≠1)→schE s = Jj s s.cols.length:=fun k=>by rw [schE,if_neg (by omega),if_neg (by rw [i2];simp),if_neg k]
  have hz:((0:Nat):Int) = 0:=rfl
  by_cases h0:s.cols.length = 0
  ·have hn:s.cols = []:=List.length_eq_zero_iff.1 h0
   rw [hE2 (.inl h0)]
   simp only [tZ,↓un_u,simprocAttr,hn,List.length_nil,hz,beq_self_eq_true]
   exact .oA [] []
  ·have h0p:0 < s.cols.length:=by omega
   have e0:((s.cols.length:Int) == 0) = false:=beq_eq_false_iff_ne.2 (by omega)
   have hc0:qd s 0 = s.cols[0]:=by rw [qd,qj h0p]
   simp only [tZ,↓un_u,simprocAttr,e0,qg h0p,bne_iff_ne,bne_eq_false_iff_eq,Bool.false_or]
   refine ⟨by omega,fun h3=>?_,fun h3=>?_⟩
   ·rw [hE2 (.inr (by rw [hc0];exact h3))]
    exact .oA [] []
   have hE4:=hE3 (by rw [hc0];grind)
   refine qE mixm (α:=Nat) [6,63] (fun i=>i≤s.cols.length∧Jj s i = 0) (fun i=>[(6,vI i)]) (fun i=>[(4096,.arr 2 [schT s] false)]) (fun i=>s.cols.length - i) 0 ⟨by omega,rfl⟩ ?_ fun i hi=>?_
   ·exact .oA [(4096,some 4096)] []
   simp only [tZ,↓un_u,simprocAttr,decide_eq_true_eq,decide_eq_false_iff_not]
   refine ⟨fun h=>?_,fun h=>?_⟩
   ·have hi2:i < s.cols.length:=by omega
    have hwi:=qr (i:=i) (by omega)
    have hstep:Jj s (i + 1) = colE s i:=by rw [Jj,if_neg (by rw [hi.2];simp)]
    refine C1.im (qC0 s i hi2 hs2 hs1) (by rfl) (by rfl) ?_
    simp only [tZ,↓un_u,simprocAttr,bne_iff_ne,bne_eq_false_iff_eq,hwi]
    refine ⟨fun h4=>?_,fun h4=>?_⟩
    ·have:=qw5 (s:=s) (i:=i + 1) (by rw [hstep];exact h4) s.cols.length (by omega)
     rw [hE4,this,hstep]
     exact .oA [] []
    ·refine ⟨i + 1,⟨by omega,by rw [hstep];exact h4⟩,by omega,?_⟩
     exact .oA [(4096,some 4096)] []
   ·have hi2:i = s.cols.length:=by omega
    subst hi2
    rw [hE4,hi.2]
    exact .oA [] []
end Go.Proofs
namespace Go.Proofs
open Go Go.TL
theorem SchOk.sm {s:Sch} (h:SchOk s):Jk s:=by
 have h1:=h.nl
 have h2:=h.nc
 refine ⟨by omega,by omega,fun l hl=>?_⟩
 obtain ⟨i,hi,rfl⟩:=List.getElem_of_mem hl
 have h3:=h.ls i hi
 rw [qj hi] at h3
 have:=(ze h3).2.2
 omega
theorem YH {l:CodL} : -1≤zk l∧zk l≤60:=by
 unfold zk
 split
 ·omega
 ·rename_i h
  obtain ⟨hp,h1,h2⟩:=ze (Classical.byContradiction h)
  have:=ql4 hp (l.codes.length - 1) (by omega)
  omega
theorem qK5 (s:Sch) (h:SchOk s) (i:Nat) (hi:i < s.cols.length) (v:Int):Spc Tryz.prog JB [schT s,vI i,vI v] [] (vB (qH s i v)) []:=by
 have hat:qd s i = s.cols[i]:=by rw [qd,qj hi]
 have hk:=qZ (h.cs i hi)
 have hcd:=fun e=>h.cdl hi e
 have hE:qH s i v = if s.cols[i].kind = 1 then inB v 1 1048575
  else if s.cols[i].kind = 2 then inB v 0 ((qJ s i).codes.length - 1) && (lvlC (qJ s i) v == zk (qJ s i) - 1)
  else (s.cols[i].opt && (v == zj)) || inB v s.cols[i].low s.cols[i].high:=by rw [qH,hat]
 have hcl:qJ s i = s.lists.getD s.cols[i].list.toNat default:=by rw [qJ,hat]
 rw [hat] at hk hcd
 rw [hE]
 rw [hcl] at hcd ⊢
 refine qe qz0 mixm (by simp) fun e _ hst=>qo ?_
 unfold ZA
 simp only [tZ,↓un_u,simprocAttr,Int.toNat_natCast,qg hi]
 generalize s.cols[i] = c at hk hcd ⊢
 simp only [tZ,↓un_u,simprocAttr,beq_iff_eq,beq_eq_false_iff_ne]
 refine ⟨by omega,fun h1=>?_,fun h1=>⟨fun h2=>?_,fun h2=>?_⟩⟩
 ·rw [if_pos h1]
  refine C1.im (ky v 1 1048575) (by rfl) (by rfl) ?_
  refine sW ?_
  exact .oA [] []
 ·obtain ⟨d1,d2⟩:=hcd h2
  obtain ⟨d3,d4⟩:=hk.2.2.2.1 h2
  have hgl:s.lists.getD c.list.toNat default = s.lists[c.list.toNat]:=qj d1
  rw [if_neg h1,if_pos h2]
  rw [hgl] at d2 ⊢
  obtain ⟨_,d5,d6⟩:=ze d2
  simp only [tZ,↓un_u,simprocAttr,qg d1]
  generalize s.lists[c.list.toNat] = l at d2 d5 d6 ⊢
  have hw:IntKind.i64.wrap ((l.codes.length:Int) - 1) = (l.codes.length:Int) - 1:=IntWalk.i64_in _ (by omega)
  have hlv:=YH (l:=l)
  have hw2:IntKind.i64.wrap (zk l - 1) = zk l - 1:=IntWalk.i64_in _ (by omega)
  simp only [tZ,↓un_u,simprocAttr,hw]
  refine ⟨by omega,?_⟩
  refine C1.im (ky v 0 _) (by rfl) (by rfl) ?_
  refine sW ?_
  refine C2.im (fun _=>qK3 l v (by omega)) (fun _=>rfl) (by rfl) ?_
  refine sW ?_
  refine C2.im (fun _=>ZR l (by omega)) (fun _=>rfl) (by rfl) ?_
  simp only [tZ,↓un_u,simprocAttr,hw2]
  refine ⟨by kernel_rfl,?_⟩
  exact .oA [] []
 ·rw [if_neg h1,if_neg h2]
  refine C2.im (fun _=>ky v c.low c.high) (fun _=>rfl) (by rfl) ?_
  refine sW ?_
  rw [show (c.opt && v == -1099511627776) = (c.opt && (v == zj)) from rfl]
  exact .oA [] []
theorem Yc (s:Sch) (hs:Jk s) (c:Int):Spc Tryz.prog yN [schT s,vI c] [] (vI (finI s c)) []:=by
 have hs2:=hs.2.1
 refine qe qu1 mixm (by simp) fun e _ hst=>qo ?_
 unfold QT
 refine sW ?_
 refine C1.im (qK4 s hs) (by rfl) (by rfl) ?_
 simp only [tZ,↓un_u,simprocAttr,tD,bne_iff_ne,bne_eq_false_iff_eq]
 refine ⟨fun h=>?_,fun h=>?_⟩
 ·rw [finI,if_pos (by omega)]
  exact .oA [] []
 have hok:=qK h.1.1
 obtain ⟨i,rfl⟩:=Int.eq_ofNat_of_zero_le (show 0≤c by omega)
 have hi:i < s.cols.length:=by omega
 have hat:qd s i = s.cols[i]:=by rw [qd,qj hi]
 have hk:=qZ (hok.cs i hi)
 have hcd:=fun e=>hok.cdl hi e
 have hcl:qJ s i = s.lists.getD s.cols[i].list.toNat default:=by rw [qJ,hat]
 rw [hat] at hk hcd
 rw [hcl] at hcd
 rw [finI,if_neg (by omega),Int.toNat_natCast,hcl,hat]
 simp only [tZ,↓un_u,simprocAttr,Int.toNat_natCast,qg hi]
 generalize s.cols[i] = x at hk hcd ⊢
 simp only [tZ,↓un_u,simprocAttr,beq_iff_eq,beq_eq_false_iff_ne]
 refine ⟨by omega,fun h2=>?_,fun h2=>?_⟩
 ·obtain ⟨d1,d2⟩:=hcd h2
  obtain ⟨d3,d4⟩:=hk.2.2.2.1 h2
  have hgl:s.lists.getD x.list.toNat default = s.lists[x.list.toNat]:=qj d1
  rw [if_pos h2]
  rw [hgl] at d2 ⊢
  obtain ⟨_,d5,d6⟩:=ze d2
  simp only [tZ,↓un_u,simprocAttr,qg d1]
  generalize s.lists[x.list.toNat] = l at d2 d5 d6 ⊢
  have hlv:=YH (l:=l)
  have hw2:IntKind.i64.wrap (zk l - 1) = zk l - 1:=IntWalk.i64_in _ (by omega)
  refine ⟨by omega,?_⟩
  refine C1.im (ZR l (by omega)) (by rfl) (by rfl) ?_
  simp only [tZ,↓un_u,simprocAttr,hw2]
  exact .oA [] []
 ·rw [if_neg h2]
  exact .oA [] []
theorem zm9 {a b:Int} (hb:0 < b):qw a b = if a.tmod b < 0 then a.tdiv b - 1 else a.tdiv b:=by
 have h1:=Int.mul_tdiv_add_tmod a b
 have h2:=Int.tmod_lt_of_pos a hb
 have h3:=Int.lt_tmod_of_pos a hb
 unfold qw
 rw [Int.fdiv_eq_ediv_of_nonneg _ (by omega)]
 split
 ·refine ((Int.ediv_emod_unique (r:=a.tmod b + b) hb).2 ⟨?_,by omega,by omega⟩).1
  rw [Int.mul_sub];omega
 ·refine ((Int.ediv_emod_unique (r:=a.tmod b) hb).2 ⟨by omega,by omega,by omega⟩).1
theorem qK6 (a b:Int) (hb:0 < b) (ha : -4611686018427387904 < a∧a < 4611686018427387904):Spc Tryz.prog JD [vI a,vI b] [] (vI (qw a b)) []:=by
 rw [zm9 hb]
 have hq:=Int.natAbs_tdiv_le_natAbs a b
 have hw:IntKind.i64.wrap (a.tdiv b) = a.tdiv b:=IntWalk.i64_in _ (by omega)
 have hw2:IntKind.i64.wrap (a.tdiv b - 1) = a.tdiv b - 1:=IntWalk.i64_in _ (by omega)
 refine qe qz4 mixm (by simp) fun e _ hst=>qo ?_
 unfold ZC
 simp only [tZ,↓un_u,simprocAttr,hw,hw2,tD]
 refine ⟨by omega,by omega,fun h=>?_,fun h=>?_⟩
 ·rw [if_pos h]
  exact .oA [] []
 ·rw [if_neg h]
  exact .oA [] []
theorem qK7 (c:Col) (lev:Int) (h1:1≤lev∧lev≤c.widths.length) (h2:c.widths.length < 4611686018427387904):Spc Tryz.prog JC [colT c,vI lev] [] (vI (qy c lev)) []:=by
 have hw:IntKind.i64.wrap ((c.widths.length:Int) - lev) = (c.widths.length:Int) - lev:=IntWalk.i64_in _ (by omega)
 have hk:((c.widths.length:Int) - lev).toNat < c.widths.length:=by omega
 refine qe qz2 mixm (by simp) fun e _ hst=>qo ?_
 unfold ZB
 simp only [tZ,↓un_u,simprocAttr,hw,qg hk]
 rw [qy,qj hk]
 refine ⟨by omega,?_⟩
 exact .oA [] []
end Go.Proofs
namespace Go.Proofs
open Go Go.TL
namespace Cnd
mutual
theorem ind' {p:Cnd→Prop} (h:∀ c,(∀ k∈c.kids,p k)→p c):∀ c,p c
 | .mk _ _ _ _ _ ks=>h _ (inds h ks)
theorem inds {p:Cnd→Prop} (h:∀ c,(∀ k∈c.kids,p k)→p c):∀ ks:List Cnd,∀ k∈ks,p k
 | [],_,hk=>absurd hk (by simp)
 | x :: r,k,hk=>by
   rcases List.mem_cons.1 hk with e | hk
   ·rw [e];exact ind' h x
   ·exact inds h r k hk
end
end Cnd
mutual
def cntC:Cnd→Int→Int
 | .mk _ _ _ _ _ ks,m=>yc ks m 1
def yc:List Cnd→Int→Int→Int
 | [],_,n=>n
 | k :: r,m,n=>if n < m then yc r m (n + cntC k (m - n)) else n
end
theorem YI (c:Cnd) (m:Int):cntC c m = yc c.kids m 1:=by cases c;rw [cntC];rfl
mutual
def depC:Cnd→Nat
 | .mk _ _ _ _ _ ks=>wt ks + 1
def wt:List Cnd→Nat
 | []=>0
 | k :: r=>max (depC k) (wt r)
end
theorem qw6 (c:Cnd):depC c = wt c.kids + 1:=by cases c;rw [depC];rfl
def isB (s:Sch) (col kind:Int):Bool:=decide (0≤col) && decide (col < s.cols.length) && ((qd s col.toNat).kind == kind)
def arC (op:Int):Nat:=if op = 5∨op = 6 then 2 else if op = 7 then 1 else 0
def ndE (s:Sch) (c:Cnd):Int:=
 if c.op < 1∨7 < c.op then 4
 else if c.kids.length≠arC c.op∨(c.op≠2∧c.op≠3∧c.op≠4∧c.col≠0)∨(c.op≠2∧c.code≠0)∨(c.op≠3∧(c.lo≠0∨c.hi≠0)) then 11
 else if (c.op = 2∧isB s c.col 2 = false)∨(c.op = 3∧isB s c.col 3 = false)∨(c.op = 4∧(isB s c.col 3 = false∨(qd s c.col.toNat).opt = false)) then 7
 else if c.op = 2∧(c.code < 0∨c.code≥(qJ s c.col.toNat).codes.length) then 6
 else if c.op = 3∧(c.lo < -1000000∨c.hi > 1000000∨c.lo > c.hi) then 2 else 0
mutual
def nodE (s:Sch):Cnd→Int
 | .mk op col code lo hi ks=>if ndE s (.mk op col code lo hi ks)≠0 then ndE s (.mk op col code lo hi ks) else Qq s ks
def Qq (s:Sch):List Cnd→Int
 | []=>0
 | k :: r=>if nodE s k≠0 then nodE s k else Qq s r
end
theorem zc8 (s:Sch) (c:Cnd):nodE s c = if ndE s c≠0 then ndE s c else Qq s c.kids:=by cases c;rw [nodE];rfl
def chkC (s:Sch) (c:Cnd):Int:=if schE s≠0 then schE s else if cntC c 41 > 40 then 1 else if depC c > 10 then 22 else nodE s c
theorem qW6 {s:Sch}:∀ {l:List Cnd},Qq s l = 0→∀ k∈l,nodE s k = 0
 | [],_,k,hk=>absurd hk (by simp)
 | x :: r,h,k,hk=>by
   rw [Qq] at h
   split at h
   ·rename_i h1;exact absurd h h1
   ·rename_i h1
    rcases List.mem_cons.1 hk with e | hk
    ·rw [e];exact Classical.byContradiction h1
    ·exact qW6 h k hk
theorem jd7 {s:Sch} {c:Cnd} (h:nodE s c = 0):ndE s c = 0∧∀ k∈c.kids,nodE s k = 0:=by
 rw [zc8] at h
 split at h
 ·rename_i h1;exact absurd h h1
 ·rename_i h1
  exact ⟨Classical.byContradiction h1,qW6 h⟩
theorem zA {s:Sch} {col kind:Int}:isB s col kind = true↔0≤col∧col < s.cols.length∧(qd s col.toNat).kind = kind:=by
 unfold isB
 simp only [Bool.and_eq_true,decide_eq_true_eq,beq_iff_eq,and_assoc]
structure NdOk (s:Sch) (c:Cnd):Prop where
 op:1≤c.op∧c.op≤7
 nk:c.kids.length = arC c.op
 under:c.op = 2→isB s c.col 2 = true∧0≤c.code∧c.code < (qJ s c.col.toNat).codes.length
 between:c.op = 3→isB s c.col 3 = true∧-1000000≤c.lo∧c.hi≤1000000∧c.lo≤c.hi
 miss:c.op = 4→isB s c.col 3 = true∧(qd s c.col.toNat).opt = true
theorem zZ3 {s:Sch} {c:Cnd} (h:ndE s c = 0):NdOk s c:=by
 unfold ndE at h
 split at h
 ·cases h
 rename_i h1
 split at h
 ·cases h
 rename_i h2
 split at h
 ·cases h
 rename_i h3
 split at h
 ·cases h
 rename_i h4
 split at h
 ·cases h
 rename_i h5
 refine ⟨by omega,Classical.byContradiction fun e=>h2 (.inl e),fun e=>⟨?_,by omega,by omega⟩,fun e=>⟨?_,by omega,by omega,by omega⟩,fun e=>⟨?_,?_⟩⟩
 ·cases e2:isB s c.col 2 with
  | true=>rfl
  | false=>exact absurd (.inl ⟨e,e2⟩) h3
 ·cases e2:isB s c.col 3 with
  | true=>rfl
  | false=>exact absurd (.inr (.inl ⟨e,e2⟩)) h3
 ·cases e2:isB s c.col 3 with
  | true=>rfl
  | false=>exact absurd (.inr (.inr ⟨e,.inl e2⟩)) h3
 ·cases e2:(qd s c.col.toNat).opt with
  | true=>rfl
  | false=>exact absurd (.inr (.inr ⟨e,.inr e2⟩)) h3
def isAt (c:Cnd):Bool:=(c.op == 2) || (c.op == 3) || (c.op == 4)
def tf (b:Bool):Int:=if b then 1 else -1
def zr (s:Sch) (c:Cnd) (v:Int):Int:=
 if c.op = 2 then tf (ql5 (qJ s c.col.toNat) v c.code)
 else if c.op = 3 then (if v = zj then 0 else tf (decide (c.lo≤v) && decide (v≤c.hi)))
 else if c.op = 4 then tf (v == zj) else -1
def jm3 (op:Int) (ks:List Int):Int:=if op = 7 then - ks.getD 0 0 else if op = 5 then min (ks.getD 0 0) (ks.getD 1 0) else if op = 6 then max (ks.getD 0 0) (ks.getD 1 0) else 1
mutual
def evC (s:Sch) (row:List Int):Cnd→Int
 | .mk op col code lo hi ks=>if isAt (.mk op col code lo hi ks) = true then zr s (.mk op col code lo hi ks) (row.getD col.toNat 0) else jm3 op (evCs s row ks)
def evCs (s:Sch) (row:List Int):List Cnd→List Int
 | []=>[]
 | k :: r=>evC s row k :: evCs s row r
end
def jm4 (s:Sch) (c:Cnd) (row:List Int):Int:=if chkC s c≠0∨rowE s row≠0 then 0 else evC s row c
mutual
def atsC:Cnd→List Cnd
 | .mk op col code lo hi ks=>if isAt (.mk op col code lo hi ks) = true then [.mk op col code lo hi ks] else Jl ks
def Jl:List Cnd→List Cnd
 | []=>[]
 | k :: r=>atsC k ++ Jl r
end
theorem qK8 (c:Cnd):atsC c = if isAt c = true then [c] else Jl c.kids:=by cases c;rw [atsC];rfl
theorem qj1:∀ (l:List Cnd) (k:Cnd),Jl (l ++ [k]) = Jl l ++ atsC k
 | [],k=>by simp [Jl]
 | x :: r,k=>by simp [Jl,qj1 r k]
theorem qG0 {s:Sch}:∀ c,nodE s c = 0→∀ a∈atsC c,NdOk s a∧isAt a = true:=by
 refine Cnd.ind' fun c ih h a ha=>?_
 obtain ⟨h1,h2⟩:=jd7 h
 rw [qK8] at ha
 split at ha
 ·rename_i h3
  rw [List.mem_singleton] at ha
  rw [ha]
  exact ⟨zZ3 h1,h3⟩
 ·have key:∀ l:List Cnd,(∀ k∈l,k∈c.kids)→a∈Jl l→NdOk s a∧isAt a = true:=by
   intro l
   induction l with
   | nil=>intro _ h;simp [Jl] at h
   | cons k r ihl=>
     intro hk h
     rw [Jl,List.mem_append] at h
     rcases h with h | h
     ·exact ih k (hk k (by simp)) (h2 k (hk k (by simp))) a h
     ·exact ihl (fun x hx=>hk x (List.mem_cons_of_mem _ hx)) h
  exact key c.kids (fun k hk=>hk) ha
def Wh (n:Nat) (p:Nat→Nat→Bool):Bool:=(List.range n).all fun i=>(List.range i).all fun k=>p i k
theorem zn0 {p:Nat→Bool} {n:Nat}:(List.range (n + 1)).all p = ((List.range n).all p && p n):=by rw [List.range_succ,List.all_append];simp
theorem zZ4 {p:Nat→Bool} {n i:Nat} (h:i < n) (hp:p i = false):(List.range n).all p = false:=List.all_eq_false.2 ⟨i,List.mem_range.2 h,by rw [hp];simp⟩
theorem qG1 {p:Nat→Nat→Bool} {n:Nat}:Wh (n + 1) p = (Wh n p && (List.range n).all (p n)):=zn0
theorem qK9 {p:Nat→Nat→Bool} {n i k:Nat} (h:i < n) (hk:k < i) (hp:p i k = false):Wh n p = false:=zZ4 h (zZ4 hk hp)
def decP (s:Sch) (c:Cnd) (lev:Nat) (i k:Nat):Bool:=
 !((qh s c.col lev ((qz s c.col.toNat).getD i 0) == qh s c.col lev ((qz s c.col.toNat).getD k 0)) && !(zr s c ((qz s c.col.toNat).getD i 0) == zr s c ((qz s c.col.toNat).getD k 0)))
def decB (s:Sch) (c:Cnd) (lev:Nat):Bool:=
 if c.op = 2 then Wh (qz s c.col.toNat).length (decP s c lev)
 else if c.op = 4 then decide (0 < lev)
 else
  let x:=qd s c.col.toNat
  let first:=decide (x.low < c.lo) && decide (c.lo≤x.high)
  let behind:=decide (x.low≤c.hi) && decide (c.hi < x.high)
  if lev = 0 then !x.opt && !first && !behind
  else (!first || (c.lo.tmod (qy x lev) == 0)) && (!behind || ((c.hi + 1).tmod (qy x lev) == 0))
def Kg (p:Nat→Bool):Nat→Nat→Nat
 | 0,n=>n
 | f + 1,n=>if p n = true then n else Kg p f (n + 1)
theorem YJ {p:Nat→Bool} {N:Nat} (h:p N = true):∀ (f n:Nat),n≤N→N - n≤f→p (Kg p f n) = true∧Kg p f n≤N∧n≤Kg p f n∧∀ m,n≤m→m < Kg p f n→p m = false
 | 0,n,h1,h2=>by
   have:n = N:=by omega
   subst this
   exact ⟨h,Nat.le_refl _,Nat.le_refl _,fun m h3 h4=>by rw [Kg] at h4;omega⟩
 | f + 1,n,h1,h2=>by
   rw [Kg]
   split
   ·rename_i hp
    exact ⟨hp,h1,Nat.le_refl _,fun m h3 h4=>by omega⟩
   ·rename_i hp
    have hn:n≠N:=fun e=>hp (e ▸ h)
    obtain ⟨a,b,c,d⟩:=YJ h f (n + 1) (by omega) (by omega)
    refine ⟨a,b,by omega,fun m h3 h4=>?_⟩
    by_cases e:m = n
    ·rw [e];simpa using hp
    ·exact d m (by omega) h4
def decN (s:Sch) (c:Cnd):Nat:=Kg (decB s c) 64 0
def qC1 (col lev:Int):List Pk×Bool→Pk→List Pk×Bool:=fun x p=>
 let y:=if p.col > col∧x.2 = false then (x.1 ++ [⟨col,lev⟩],true) else x
 if p.col = col then (y.1 ++ [⟨p.col,max p.lev lev⟩],true) else (y.1 ++ [p],y.2)
def WR (l:List Pk) (col lev:Int):List Pk:=
 let x:=l.foldl (qC1 col lev) ([],decide (lev≤0))
 if x.2 then x.1 else x.1 ++ [⟨col,lev⟩]
def jq (s:Sch) (c:Cnd):List Pk:=if chkC s c≠0 then [] else (atsC c).foldl (fun l a=>WR l a.col (decN s a)) []
def covB (a b:List Pk):Bool:=a.all fun x=>b.any fun y=>(y.col == x.col) && decide (y.lev≥x.lev)
mutual
def YK:Cnd→Cnd→Bool
 | .mk a1 a2 a3 a4 a5 ks,.mk b1 b2 b3 b4 b5 ls=>(a1 == b1) && (a2 == b2) && (a3 == b3) && (a4 == b4) && (a5 == b5) && qW7 ks ls
def qW7:List Cnd→List Cnd→Bool
 | [],[]=>true
 | k :: r,l :: t=>YK k l && qW7 r t
 | [],_ :: _=>false
 | _ :: _,[]=>false
end
theorem zR6 (a b:Cnd):YK a b = ((a.op == b.op) && (a.col == b.col) && (a.code == b.code) && (a.lo == b.lo) && (a.hi == b.hi) && qW7 a.kids b.kids):=by cases a;cases b;rw [YK];rfl
theorem qw7:∀ c,∀ m,1≤m→1≤cntC c m∧cntC c m≤m:=by
 refine Cnd.ind' fun c ih m hm=>?_
 rw [YI]
 have key:∀ l:List Cnd,(∀ k∈l,k∈c.kids)→∀ n,1≤n→n≤m→1≤yc l m n∧yc l m n≤m:=by
  intro l
  induction l with
  | nil=>intro _ n h1 h2;rw [yc];exact ⟨h1,h2⟩
  | cons k r ihl=>
    intro hk n h1 h2
    rw [yc]
    split
    ·have:=ih k (hk k (by simp)) (m - n) (by omega)
     exact ihl (fun x hx=>hk x (List.mem_cons_of_mem _ hx)) _ (by omega) (by omega)
    ·exact ⟨h1,h2⟩
 exact key c.kids (fun k hk=>hk) 1 (by omega) hm
theorem qL0:∀ (l:List Cnd) (m n:Int),n≤m→n≤yc l m n
 | [],m,n,_=>by rw [yc];omega
 | k :: r,m,n,h=>by
   rw [yc]
   split
   ·have:=qw7 k (m - n) (by omega)
    have:=qL0 r m (n + cntC k (m - n)) (by omega)
    omega
   ·omega
theorem jd8:∀ c,∀ m,1≤m→cntC c m < m→(depC c:Int)≤cntC c m:=by
 refine Cnd.ind' fun c ih m hm h=>?_
 rw [YI] at h ⊢
 rw [qw6]
 have key:∀ l:List Cnd,(∀ k∈l,k∈c.kids)→∀ n,1≤n→n≤m→yc l m n < m→n + wt l≤yc l m n:=by
  intro l
  induction l with
  | nil=>intro _ n h1 h2 _;rw [yc,wt];omega
  | cons k r ihl=>
    intro hk n h1 h2 h3
    rw [yc] at h3 ⊢
    rw [wt]
    split at h3
    ·rename_i h4
     rw [if_pos h4]
     have c1:=qw7 k (m - n) (by omega)
     have c2:=qL0 r m (n + cntC k (m - n)) (by omega)
     have c3:=ih k (hk k (by simp)) (m - n) (by omega) (by omega)
     have c4:=ihl (fun x hx=>hk x (List.mem_cons_of_mem _ hx)) (n + cntC k (m - n)) (by omega) (by omega) h3
     omega
    ·omega
 have:=key c.kids (fun k hk=>hk) 1 (by omega) (by omega) h
 omega
end Go.Proofs
namespace Go.Proofs
open Go Go.TL
def jF (f:Nat→Int):Nat→Int
 | 0=>0
 | n + 1=>if jF f n≠0 then jF f n else f n
theorem qW8 {f:Nat→Int} {i:Nat} (h:jF f i≠0):∀ n,i≤n→jF f n = jF f i:=by
 intro n hn
 induction n with
 | zero=>have:i = 0:=by omega
         rw [this]
 | succ n ih=>
   by_cases e:i = n + 1
   ·rw [e]
   ·have:=ih (by omega)
    rw [jF,this,if_pos h]
theorem qG2 {f:Nat→Int}:∀ {n:Nat},jF f n = 0→∀ i,i < n→f i = 0
 | 0,_,i,h=>by omega
 | n + 1,h,i,hi=>by
   rw [jF] at h
   split at h
   ·rename_i h2;exact absurd h h2
   ·rename_i h2
    by_cases e:i = n
    ·rw [e];exact h
    ·exact qG2 (Classical.byContradiction h2) i (by omega)
theorem qw8 {f:Nat→Int}:∀ {n:Nat},(∀ i,i < n→f i = 0)→jF f n = 0
 | 0,_=>rfl
 | n + 1,h=>by
   rw [jF,qw8 fun i hi=>h i (by omega),if_neg (by simp)]
   exact h n (by omega)
theorem Zh {f:Nat→Int} {n:Nat} (h:jF f n = 0):jF f (n + 1) = f n:=by rw [jF,if_neg (by rw [h];simp)]
theorem qj2 {f:Nat→Int} {i n:Nat} (h:jF f i = 0) (hi:i < n) (hf:f i≠0):jF f n = f i:=by
 rw [qW8 (i:=i + 1) (by rw [Zh h];exact hf) n (by omega),Zh h]
def Kw (s:Sch) (p:Pk):Int:=if schE s≠0 then schE s else if p.col < 1∨p.col≥s.cols.length then 7 else if inB p.lev 0 (finI s p.col) = false then 8 else 0
abbrev pkAt (l:List Pk) (i:Nat):Pk:=l.getD i default
def zn1 (s:Sch) (l:List Pk) (i:Nat):Int:=if Kw s (pkAt l i)≠0 then Kw s (pkAt l i) else if 0 < i∧(pkAt l i).col≤(pkAt l (i - 1)).col then 10 else 0
def qw9 (s:Sch) (l:List Pk):Int:=if schE s≠0 then schE s else jF (zn1 s l) l.length
def dimE (s:Sch) (l:List Pk) (i:Nat):Int:=if Kw s (pkAt l i)≠0 then Kw s (pkAt l i) else if isB s (pkAt l i).col 2 = false then 7 else if ((l.take i).any fun x=>x.col == (pkAt l i).col) = true then 10 else 0
def ZS (s:Sch) (l:List Pk):Int:=if l.length < 1∨l.length > 3 then 1 else jF (dimE s l) l.length
def qW9 (s:Sch) (m:Int) (l:List Int) (i:Nat):Int:=if isB s (l.getD i 0) 3 = false then 7 else if l.getD i 0 = m∨(l.take i).contains (l.getD i 0) = true then 10 else 0
def yd (s:Sch) (m:Int) (l:List Int):Int:=if l.length < 1∨l.length > 3 then 1 else jF (qW9 s m l) l.length
def kB (s:Sch) (q:Qst):Int:=
 if q.kind = 1 then (if ZS s q.dims≠0 then ZS s q.dims else if q.meas≠-1∧isB s q.meas 3 = false then 7 else 0)
 else if q.kind = 2 then (if isB s q.meas 3 = false then 7 else yd s q.meas q.terms)
 else if isB s q.meas 3 = false then 7 else if (qd s q.meas.toNat).low < 0 then 2 else chkC s q.event
def qstE (s:Sch) (q:Qst):Int:=
 if schE s≠0 then schE s else if kf q.name = false then 3 else if q.kind < 1∨3 < q.kind then 4
 else if chkC s q.filt≠0 then chkC s q.filt else if kB s q≠0 then kB s q
 else if (q.kind≠1∧0 < q.dims.length)∨(q.kind≠2∧0 < q.terms.length)∨(q.kind≠3∧YK q.event cnd0 = false) then 11 else 0
abbrev qAt (l:List Qst) (i:Nat):Qst:=l.getD i default
def qsE (s:Sch) (l:List Qst) (i:Nat):Int:=if qstE s (qAt l i)≠0 then qstE s (qAt l i) else if ((l.take i).any fun x=>eqB x.name (qAt l i).name) = true then 10 else 0
def smpE (x:Smp):Int:=if x.of < 1∨x.of > 1000∨x.part < 1∨x.part > x.of∨x.seed < 0∨x.seed > 1099511627776 then 2 else 0
def dclE (s:Sch) (d:Dcl):Int:=
 if schE s≠0 then schE s else if kf d.proj = false∨kf d.src = false then 3 else if chkC s d.coh≠0 then chkC s d.coh
 else if smpE d.smp≠0 then 2 else if d.qs.length < 1∨d.qs.length > 8 then 1 else jF (qsE s d.qs) d.qs.length
theorem qp2 {s:Sch} {p:Pk} (h:Kw s p = 0):schE s = 0∧1≤p.col∧p.col < s.cols.length∧0≤p.lev∧p.lev≤finI s p.col:=by
 unfold Kw at h
 split at h
 ·rename_i h1;exact absurd h h1
 rename_i h1
 split at h
 ·cases h
 rename_i h2
 split at h
 ·cases h
 rename_i h3
 rw [Bool.not_eq_false,inB,Bool.and_eq_true,decide_eq_true_eq,decide_eq_true_eq] at h3
 exact ⟨Classical.byContradiction h1,by omega,by omega,h3.1,h3.2⟩
end Go.Proofs
namespace Go.Proofs
open Go Go.TL
def divM (high w wo:Int):Nat→Int→Bool
 | 0,_=>true
 | k + 1,f=>if f > high then true else if f.tmod wo≠0 then false else divM high w wo k (f + w)
def divP (s:Sch) (col:Nat) (L:List Int) (other lev:Nat) (i k:Nat):Bool:=
 !(!(qh s col lev (L.getD i 0) == qh s col lev (L.getD k 0)) && (qh s col other (L.getD i 0) == qh s col other (L.getD k 0)))
def divB (s:Sch) (col other lev:Nat):Bool:=
 if lev = 0∨lev≤other then true
 else if (qd s col).kind = 2 then Wh (qz s col).length (divP s col (qz s col) other lev)
 else
  let x:=qd s col
  let w:=qy x lev
  let first:=(qw x.low w + 1) * w
  if other = 0 then !x.opt && decide (first > x.high)
  else divM x.high w (qy x other) 2 first
def jo (s:Sch) (col lev:Int):Int:=if inB lev 0 (finI s col) = false then -1 else Kg (fun n=>divB s col.toNat n lev.toNat) 64 0
def jd9 (q:Qst) (k:Int):Bool:=(q.meas == k) || q.terms.contains k
def Wi (l m:List Pk):List Pk:=m.foldl (fun l p=>WR l p.col p.lev) l
def ql6 (s:Sch) (q:Qst):List Pk→Nat→List Pk:=fun l k=>if jd9 q (k + 1) = true then WR l (k + 1) (jo s (k + 1) (finI s (k + 1))) else l
def je0 (s:Sch) (q:Qst) (l:List Pk):List Pk:=(List.range (s.cols.length - 1)).foldl (ql6 s q) l
def YL (s:Sch) (q:Qst):List Pk:=if qstE s q≠0 then [] else
 je0 s q (q.dims.foldl (fun l p=>WR l p.col (jo s p.col p.lev)) (if q.kind = 3 then Wi (jq s q.filt) (jq s q.event) else jq s q.filt))
def sufB (s:Sch) (q:Qst) (l:List Pk):Bool:=(qstE s q == 0) && (qw9 s l == 0) && covB (YL s q) l
def jk1 (s:Sch) (d:Dcl) (l:List Pk):Int:=if dclE s d≠0 then dclE s d else if qw9 s l≠0 then qw9 s l else jF (fun i=>if sufB s (qAt d.qs i) l = true then 0 else 23) d.qs.length
end Go.Proofs
namespace Go.Proofs
open Go Go.TL
theorem yE {s:Sch} {c:Int} (h:0≤finI s c):schE s = 0∧1≤c∧c < s.cols.length∧finI s c = (if (qd s c.toNat).kind = 2 then zk (qJ s c.toNat) - 1 else (qd s c.toNat).widths.length):=by
 unfold finI at h ⊢
 split at h
 ·omega
 ·rename_i h1
  rw [if_neg h1]
  exact ⟨by omega,by omega,by omega,rfl⟩
theorem ye {n lo hi:Int}:inB n lo hi = true↔lo≤n∧n≤hi:=by simp [inB]
theorem qe2 {n lo hi:Int}:inB n lo hi = false↔n < lo∨hi < n:=by
 rw [← Bool.not_eq_true,ye];omega
theorem SchOk.wid {s:Sch} (h:SchOk s) {i:Nat} (hi:i < s.cols.length) (h0:0 < i) (hk:(qd s i).kind≠2) {lev:Int} (hl:1≤lev∧lev≤(qd s i).widths.length) :
 1≤qy (qd s i) lev∧qy (qd s i) lev≤1000000∧(qd s i).kind = 3∧(qd s i).widths.length≤4∧-1000000≤(qd s i).low∧(qd s i).high≤1000000∧(qd s i).low≤(qd s i).high∧qy (qd s i) (qd s i).widths.length = 1:=by
 have hk2:=qZ (h.cs i hi)
 have hk3:(qd s i).kind = 3:=by have:=hk2.2.2.1 h0;omega
 have hm:=hk2.2.2.2.2 hk3
 generalize qd s i = c at hl hm hk3 ⊢
 unfold measE at hm
 split at hm
 ·cases hm
 rename_i h1
 split at hm
 ·cases hm
 rename_i h2
 split at hm
 ·cases hm
 rename_i h3
 rw [Bool.not_eq_false] at h3
 have hw:∀ j,j < c.widths.length→wdOk c.widths j = true:=fun j hj=>List.all_eq_true.1 h3 j (List.mem_range.2 hj)
 have e1:inB c.low (-1000000) 1000000 = true:=by grind
 have e2:inB c.high (-1000000) 1000000 = true:=by grind
 rw [ye] at e1 e2
 have hn:((c.widths.length:Int) - lev).toNat < c.widths.length:=by omega
 have hp:=qW5 (ws:=c.widths) hw _ hn
 have h0:=hw 0 (by omega)
 rw [wdOk,if_pos rfl,beq_iff_eq] at h0
 have hmax:c.widths.getD ((c.widths.length:Int) - lev).toNat 0≤1000000:=by
  have:=hw _ hn
  unfold wdOk at this
  split at this
  ·rename_i e;rw [e,h0];omega
  ·simp only [Bool.and_eq_true,decide_eq_true_eq] at this;omega
 refine ⟨hp,hmax,hk3,by omega,by omega,by omega,by omega,?_⟩
 rw [qy,show ((c.widths.length:Int) - c.widths.length).toNat = 0 by omega,h0]
theorem yf {v w:Int} (hw:0 < w):v - w < qw v w * w∧qw v w * w≤v:=by
 unfold qw
 rw [Int.fdiv_eq_ediv_of_nonneg _ (by omega),Int.mul_comm]
 have h1:=Int.mul_ediv_add_emod v w
 have h2:=Int.emod_nonneg v (b:=w) (by omega)
 have h3:=Int.emod_lt_of_pos v hw
 omega
theorem qC2 (s:Sch) (hs:Jk s) (c lev v:Int):Spc Tryz.prog Zv [schT s,vI c,vI lev,vI v] [] (vI (qh s c lev v)) []:=by
 refine qe qt2 mixm (by simp) fun e _ hst=>qo ?_
 unfold QP
 refine sW ?_
 refine C1.im (Yc s hs c) (by rfl) (by rfl) ?_
 refine sW ?_
 refine C1.im (ky lev 0 (finI s c)) (by rfl) (by rfl) ?_
 simp only [tZ,↓un_u,simprocAttr,Bool.not_eq_true',Bool.not_eq_false']
 refine ⟨fun h=>?_,fun h=>?_⟩
 ·rw [qh,if_pos h]
  exact .oA [] []
 rw [ye] at h
 obtain ⟨hE,c1,c2,hfin⟩:=yE (s:=s) (c:=c) (by omega)
 have hok:=qK hE
 obtain ⟨i,rfl⟩:=Int.eq_ofNat_of_zero_le (show 0≤c by omega)
 rw [Int.toNat_natCast] at hfin
 have hi:i < s.cols.length:=by omega
 have hat:qd s i = s.cols[i]:=by rw [qd,qj hi]
 have hk:=qZ (hok.cs i hi)
 have hcd:=fun e=>hok.cdl hi e
 have hwd:=fun e l=>hok.wid hi (by omega) e (lev:=l)
 have hcl:qJ s i = s.lists.getD s.cols[i].list.toNat default:=by rw [qJ,hat]
 have hE2:qh s i lev v = if s.cols[i].kind = 2 then (if qH s i v = false then -1 else upC (qJ s i) v lev)
  else if v≠zj∧inB v (-1000000) 1000000 = false then -1
  else if lev = 0 then 0 else if v = zj then v else qw v (qy s.cols[i] lev) * qy s.cols[i] lev:=by
  rw [qh,if_neg (by rw [Bool.not_eq_false,ye];exact h),Int.toNat_natCast,hat]
 rw [hE2]
 rw [hat] at hk hcd hwd hfin
 rw [hcl] at hcd ⊢
 simp only [tZ,↓un_u,simprocAttr,Int.toNat_natCast,qg hi]
 have hho:=qK5 s hok i hi v
 generalize s.cols[i] = x at hk hcd hwd hfin ⊢
 simp only [tZ,↓un_u,simprocAttr,beq_iff_eq,beq_eq_false_iff_ne]
 refine ⟨by omega,fun h2=>?_,fun h2=>?_⟩
 ·rw [if_pos h2]
  obtain ⟨d1,d2⟩:=hcd h2
  obtain ⟨d3,d4⟩:=hk.2.2.2.1 h2
  have hgl:s.lists.getD x.list.toNat default = s.lists[x.list.toNat]:=qj d1
  rw [hgl] at d2 ⊢
  obtain ⟨_,d5,d6⟩:=ze d2
  refine C1.im hho (by rfl) (by rfl) ?_
  simp only [tZ,↓un_u,simprocAttr,Bool.not_eq_true',Bool.not_eq_false']
  refine ⟨fun h3=>?_,fun h3=>?_⟩
  ·rw [if_pos h3]
   exact .oA [] []
  rw [if_neg (by rw [h3];simp)]
  simp only [tZ,↓un_u,simprocAttr,qg d1]
  generalize s.lists[x.list.toNat] = l at d2 d5 d6 ⊢
  refine ⟨by omega,?_⟩
  refine C1.im (zt0 l v lev (by omega)) (by rfl) (by rfl) ?_
  refine sW ?_
  exact .oA [] []
 rw [if_neg h2]
 rw [if_neg h2] at hfin
 refine C2.im (fun _=>ky v (-1000000) 1000000) (fun _=>rfl) (by rfl) ?_
 simp only [tZ,↓un_u,simprocAttr,tD,bne_iff_ne,bne_eq_false_iff_eq,Bool.not_eq_true',Bool.not_eq_false',beq_iff_eq,beq_eq_false_iff_ne]
 rw [show (-1099511627776:Int) = zj from rfl]
 refine ⟨fun h3=>?_,fun h3=>?_⟩
 ·rw [if_pos h3]
  exact .oA [] []
 rw [if_neg (by grind)]
 refine ⟨fun h4=>?_,fun h4=>?_⟩
 ·rw [if_pos h4]
  exact .oA [] []
 rw [if_neg h4]
 refine ⟨fun h5=>?_,fun h5=>?_⟩
 ·rw [if_pos h5]
  exact .oA [] []
 rw [if_neg h5]
 have hv:inB v (-1000000) 1000000 = true:=by grind
 rw [ye] at hv
 obtain ⟨w1,w2,w3,w4,_⟩:=hwd h2 lev (by omega)
 have hfm:=yf (v:=v) (w:=qy x lev) (by omega)
 have hw:IntKind.i64.wrap (qw v (qy x lev) * qy x lev) = qw v (qy x lev) * qy x lev:=IntWalk.i64_in _ (by omega)
 refine C1.im (qK7 x lev (by omega) (by omega)) (by rfl) (by rfl) ?_
 refine sW ?_
 refine C1.im (qK6 v (qy x lev) (by omega) (by omega)) (by rfl) (by rfl) ?_
 simp only [tZ,↓un_u,simprocAttr,hw]
 exact .oA [] []
theorem Yd (s:Sch) (hok:SchOk s) (i:Nat) (hi:i < s.cols.length) (h2:(qd s i).kind = 2):Spc Tryz.prog Zw [schT s,vI i] [] (vIs (qz s i)) []:=by
 have hat:qd s i = s.cols[i]:=by rw [qd,qj hi]
 obtain ⟨d1,d2⟩:=hok.cdl hi h2
 obtain ⟨d3,d4⟩:=(qZ (hok.cs i hi)).2.2.2.1 h2
 have hcl:qJ s i = s.lists.getD s.cols[i].list.toNat default:=by rw [qJ,hat]
 rw [hcl] at d2
 rw [hat] at d1 d3 d4
 have hgl:s.lists.getD s.cols[i].list.toNat default = s.lists[s.cols[i].list.toNat]:=qj d1
 rw [hgl] at d2
 obtain ⟨_,d5,d6⟩:=ze d2
 rw [qz,hcl,hgl]
 have hlv:=YH (l:=s.lists[s.cols[i].list.toNat])
 have hw2:IntKind.i64.wrap (zk s.lists[s.cols[i].list.toNat] - 1) = zk s.lists[s.cols[i].list.toNat] - 1:=IntWalk.i64_in _ (by omega)
 refine qe qt9 mixm (by simp) fun e _ hst=>qo ?_
 unfold QS
 simp only [tZ,↓un_u,simprocAttr,Int.toNat_natCast,qg hi,qg d1]
 refine ⟨by omega,by omega,by kernel_rfl,?_⟩
 refine C1.im (ZR _ (by omega)) (by rfl) (by rfl) ?_
 simp only [tZ,↓un_u,simprocAttr,hw2]
 refine C1.im (zs9 _ _ (by omega)) (by rfl) (by rfl) ?_
 refine sW ?_
 refine ⟨by kernel_rfl,?_⟩
 exact .oA [] []
theorem qj3 (a b:List Pk) (ha:a.length < 4611686018427387904):Spc Tryz.prog yl [vPs a,vPs b] [] (vB (qw1 a b)) []:=by
 refine qe qb3 mixm (by simp) fun e _ hst=>qo ?_
 unfold wN
 simp only [tZ,↓un_u,simprocAttr,bne_iff_ne,bne_eq_false_iff_eq]
 refine ⟨fun h=>?_,fun h=>?_⟩
 ·rw [qw1,zm0 (by omega)]
  exact .oA [] []
 have hl:a.length = b.length:=by omega
 refine qE mixm (α:=Nat) [5] (fun i=>i≤a.length∧(qw1 (a.take i) (b.take i) = true)) (fun i=>[(5,vI i)]) (fun i=>[]) (fun i=>a.length - i) 0 ⟨by omega,?_⟩ ?_ fun i hi=>?_
 ·rfl
 ·exact .oA [] []
 simp only [tZ,↓un_u,simprocAttr,decide_eq_true_eq,decide_eq_false_iff_not]
 refine ⟨fun h=>?_,fun h=>?_⟩
 ·have hib:i < b.length:=by omega
  have hi2:i < a.length:=by omega
  have hwi:=qr (i:=i) (by omega)
  simp only [tZ,↓un_u,simprocAttr,Int.toNat_natCast,qg hi2,hwi,qg hib]
  rw [show (a[i].col == b[i].col && a[i].lev == b[i].lev) = eqPk a[i] b[i] from rfl]
  refine ⟨by omega,by omega,by kernel_rfl,fun h3=>?_,fun h3=>⟨i + 1,⟨by omega,?_⟩,by omega,?_⟩⟩
  ·rw [qw1,zb2 (i:=i) hl (by omega) h3]
   exact .oA [] []
  ·rw [qw1,qF8 hi2 hib,← qw1,hi.2]
   simpa using h3
  ·exact .oA [] []
 ·have hi2:i = a.length:=by omega
  subst hi2
  have h3:=hi.2
  rw [List.take_length,List.take_of_length_le (by omega)] at h3
  rw [h3]
  exact .oA [] []
end Go.Proofs
namespace Go.Proofs
open Go Go.TL
theorem Wz {s:Sch} (h:SchOk s) {i:Nat} (hi:i < s.cols.length) (h2:(qd s i).kind = 2):(qz s i).length≤60:=by
 obtain ⟨d1,d2⟩:=h.cdl hi h2
 obtain ⟨_,d5,d6⟩:=ze d2
 unfold qz atL
 rw [if_neg (by rw [d2];simp),List.length_map]
 have:=List.length_filter_le (fun i=>(dep (qJ s i).codes i:Int) == zk (qJ s i) - 1) (List.range (qJ s i).codes.length)
 refine Nat.le_trans (List.length_filter_le _ _) ?_
 rw [List.length_range];exact d6
theorem zn2 (s:Sch) (i lev:Nat):divB s i lev lev = true:=by unfold divB;rw [if_pos (by omega)]
theorem YM {s:Sch} {c:Int} (h:schE s = 0):finI s c≤59:=by
 by_cases h0:0≤finI s c
 ·obtain ⟨_,h1,h2,h3⟩:=yE h0
  rw [h3]
  split
  ·have:=YH (l:=qJ s c.toNat);omega
  ·rename_i h4
   have hok:=qK h
   by_cases e:(qd s c.toNat).widths.length = 0
   ·omega
   ·have:=hok.wid (i:=c.toNat) (by omega) (by omega) h4 (lev:=1) (by omega)
    omega
 ·omega
end Go.Proofs
namespace Go.Proofs
open Go Go.TL
abbrev cnT (c:Cnd):T:=.agg [vI c.op,vI c.col,vI c.code,vI c.lo,vI c.hi,vCs c.kids]
theorem zR7 (c:Cnd):(cndT c).cells.length = 6∧imL (cndT c).cells = true:=by rw [jP];exact ⟨rfl,rfl⟩
theorem je1 {α:Type} {l:List α} {i:Nat} (h:i < l.length):l.drop i = l[i] :: l.drop (i + 1):=List.drop_eq_getElem_cons h
theorem qG3:∀ (l:List Cnd) (k:Cnd),wt (l ++ [k]) = max (wt l) (depC k)
 | [],k=>by simp [wt]
 | x :: r,k=>by rw [List.cons_append,wt,qG3 r k,wt];omega
theorem qG4:∀ (l:List Cnd) (i:Nat),wt (l.take i)≤wt l
 | [],i=>by simp
 | x :: r,0=>by simp [wt]
 | x :: r,i + 1=>by rw [List.take_succ_cons,wt,wt];have:=qG4 r i;omega
theorem qL1:∀ {l:List Cnd} {m n:Int},n≤m→yc l m n < m→n + l.length≤yc l m n∧∀ k∈l,∃ m',1≤m'∧m'≤m - n∧cntC k m' < m'
 | [],m,n,_,h=>by rw [yc];simp
 | x :: r,m,n,h1,h=>by
   rw [yc] at h ⊢
   split at h
   ·rename_i h2
    rw [if_pos h2]
    have h3:=qw7 x (m - n) (by omega)
    obtain ⟨h4,h5⟩:=qL1 (l:=r) (by omega) h
    refine ⟨by rw [List.length_cons];omega,fun k hk=>?_⟩
    rcases List.mem_cons.1 hk with e | hk
    ·subst e
     exact ⟨m - n,by omega,by omega,by omega⟩
    ·obtain ⟨m',a,b,c⟩:=h5 k hk
     exact ⟨m',a,by omega,c⟩
   ·omega
end Go.Proofs
namespace Go.Proofs
open Go Go.TL
set_option maxRecDepth 4000
set_option maxHeartbeats 8000000
theorem qx0:∀ {s:Sch} {l:List Cnd} {i:Nat} (h:i < l.length),Qq s (l.take i) = 0→nodE s l[i]≠0→Qq s l = nodE s l[i]
 | s,x :: r,0,h,_,h2=>by
   have h2:nodE s x≠0:=h2
   rw [Qq,if_pos h2];rfl
 | s,x :: r,i + 1,h,h1,h2=>by
   rw [List.take_succ_cons,Qq] at h1
   split at h1
   ·rename_i h3;exact absurd h1 h3
   ·rename_i h3
    rw [Qq,if_neg h3]
    exact qx0 (l:=r) (i:=i) (by simpa using h) h1 h2
theorem qG5:∀ {s:Sch} {l:List Cnd} {k:Cnd},Qq s l = 0→nodE s k = 0→Qq s (l ++ [k]) = 0
 | s,[],k,_,h=>by simp [Qq,h]
 | s,x :: r,k,h1,h2=>by
   rw [Qq] at h1
   split at h1
   ·rename_i h3;exact absurd h1 h3
   ·rename_i h3
    rw [List.cons_append,Qq,if_neg h3]
    exact qG5 h1 h2
end Go.Proofs
namespace Go.Proofs
open Go Go.TL
set_option maxHeartbeats 4000000
theorem Wj {s:Sch} {c:Cnd} (h:chkC s c = 0):schE s = 0∧cntC c 41 < 41∧depC c≤10∧nodE s c = 0:=by
 unfold chkC at h
 split at h
 ·rename_i h1;exact absurd h h1
 rename_i h1
 split at h
 ·cases h
 rename_i h2
 split at h
 ·cases h
 rename_i h3
 exact ⟨Classical.byContradiction h1,by omega,by omega,h⟩
theorem qL2:∀ c m,1≤m→cntC c m < m→((atsC c).length:Int)≤cntC c m:=by
 refine Cnd.ind' fun c ih m hm h=>?_
 have hc:=qw7 c m hm
 rw [qK8]
 split
 ·simp;omega
 ·rw [YI] at h ⊢
  have key:∀ l:List Cnd,(∀ k∈l,k∈c.kids)→∀ n,1≤n→n≤m→yc l m n < m→n + (Jl l).length≤yc l m n:=by
   intro l
   induction l with
   | nil=>intro _ n h1 h2 _;rw [yc,Jl];simp
   | cons k r ihl=>
     intro hk n h1 h2 h3
     rw [yc] at h3 ⊢
     rw [Jl,List.length_append]
     split at h3
     ·rename_i h4
      rw [if_pos h4]
      have c1:=qw7 k (m - n) (by omega)
      have c2:=qL0 r m (n + cntC k (m - n)) (by omega)
      have c3:=ih k (hk k (by simp)) (m - n) (by omega) (by omega)
      have c4:=ihl (fun x hx=>hk x (List.mem_cons_of_mem _ hx)) (n + cntC k (m - n)) (by omega) (by omega) h3
      omega
     ·omega
  have:=key c.kids (fun k hk=>hk) 1 (by omega) hm h
  omega
theorem JW:∀ (l:List Cnd) (i:Nat),(Jl (l.take i)).length≤(Jl l).length
 | [],i=>by simp
 | x :: r,0=>by simp [Jl]
 | x :: r,i + 1=>by rw [List.take_succ_cons,Jl,Jl,List.length_append,List.length_append];have:=JW r i;omega
theorem zJ0 (l:List Cnd):ImXs 6 (l.map cndT):=qM zR7 l
theorem zJ1 {st:Sto} {ρ:Ren} {B:List Nat} (l:List Cnd):ltXs st ρ B 6 (l.map cndT) (l.map cndT):=yS (zJ0 l)
end Go.Proofs
namespace Go.Proofs
open Go Go.TL
set_option maxHeartbeats 4000000
theorem qX0 (col lev:Int):∀ (l:List Pk) (x:List Pk×Bool),(l.foldl (qC1 col lev) x).1.length + (if (l.foldl (qC1 col lev) x).2 = true then 0 else 1)≤x.1.length + (if x.2 = true then 0 else 1) + l.length
 | [],x=>Nat.le_refl _
 | p :: r,x=>by
   have h:=qX0 col lev r (qC1 col lev x p)
   have h2:(qC1 col lev x p).1.length + (if (qC1 col lev x p).2 = true then 0 else 1)≤x.1.length + (if x.2 = true then 0 else 1) + 1:=by
    unfold qC1
    obtain ⟨a,b⟩:=x
    dsimp only
    split <;> split <;> cases b <;> simp_all <;> omega
   rw [List.foldl_cons,List.length_cons]
   omega
theorem qe3 (l:List Pk) (col lev:Int):(WR l col lev).length≤l.length + 1:=by
 have h:=qX0 col lev l ([],decide (lev≤0))
 unfold WR
 dsimp only at h ⊢
 split
 ·simp_all
  split at h <;> omega
 ·rename_i k
  rw [if_neg k] at h
  rw [List.length_append]
  simp at h ⊢
  split at h <;> omega
inductive SmC:Cnd→Prop
 | mk (c:Cnd) (h1:c.kids.length < 4611686018427387904) (h2:∀ k∈c.kids,SmC k):SmC c
end Go.Proofs
namespace Go.Proofs
open Go Go.TL
set_option maxHeartbeats 4000000
theorem JX {s:Sch} (hE:schE s = 0) {i:Nat} (h1:0 < i) (h2:i < s.cols.length) (hk:(qd s i).kind = 2) {v:Int} (hv:v∈qz s i):qh s i (finI s i) v = v:=by
 have hok:=qK hE
 obtain ⟨d1,d2⟩:=hok.cdl h2 hk
 have hf:finI s i = zk (qJ s i) - 1:=by
  rw [finI,if_neg (by omega),Int.toNat_natCast,if_pos hk]
 have hh:=QG hk d2 hv
 obtain ⟨j,j1,j2,rfl⟩:=(zI8 d2).1 hv
 rw [qh,if_neg,Int.toNat_natCast,if_pos hk,if_neg (by rw [hh];simp),upC,if_neg,hf,← j2,Int.toNat_natCast,Int.toNat_natCast,zm8 (by omega)]
 ·rw [hf,← j2,Int.toNat_natCast];omega
 ·rw [Bool.not_eq_false,ye,hf,← j2];omega
theorem je2 {s:Sch} (hE:schE s = 0) {c:Cnd} (hnd:NdOk s c) (ha:isAt c = true):0≤finI s c.col∧decB s c (finI s c.col).toNat = true:=by
 have hok:=qK hE
 have hlv:∀ k,isB s c.col k = true→2≤k→∃ i:Nat,c.col = i∧0 < i∧i < s.cols.length∧(qd s i).kind = k:=fun k hb hk=>by
  obtain ⟨b1,b2,b3⟩:=zA.1 hb
  obtain ⟨i,hci⟩:=Int.eq_ofNat_of_zero_le b1
  rw [hci,Int.toNat_natCast] at b3
  refine ⟨i,hci,?_,by omega,b3⟩
  refine Nat.pos_of_ne_zero fun e=>?_
  subst e
  have:=hok.c0
  omega
 have hm:∀ i:Nat,0 < i→i < s.cols.length→(qd s i).kind = 3→finI s i = (qd s i).widths.length∧1≤(qd s i).widths.length:=fun i h1 h2 h3=>by
  refine ⟨by rw [finI,if_neg (by omega),Int.toNat_natCast,if_neg (by omega)],?_⟩
  have:=(qZ (hok.cs i h2)).2.2.2.2 h3
  unfold measE at this
  grind
 have hop:c.op = 2∨c.op = 3∨c.op = 4:=by
  unfold isAt at ha
  simp only [Bool.or_eq_true,beq_iff_eq] at ha
  omega
 rcases hop with h | h | h
 ·obtain ⟨i,hci,h1,h2,hk⟩:=hlv 2 (hnd.under h).1 (by omega)
  obtain ⟨d1,d2⟩:=hok.cdl h2 hk
  have hf:finI s i = zk (qJ s i) - 1:=by
   rw [finI,if_neg (by omega),Int.toNat_natCast,if_pos hk]
  have hf0:0≤finI s i:=by rw [hf,qp0 d2];omega
  rw [hci]
  refine ⟨hf0,?_⟩
  rw [decB,if_pos h,hci,Int.toNat_natCast,Wh,List.all_eq_true]
  intro j hj
  rw [List.mem_range] at hj
  rw [List.all_eq_true]
  intro k hk2
  rw [List.mem_range] at hk2
  have e:(((finI s i).toNat:Nat):Int) = finI s i:=by omega
  rw [decP,hci,Int.toNat_natCast,e,qj hj,qj (by omega),JX hE h1 h2 hk (List.getElem_mem _),JX hE h1 h2 hk (List.getElem_mem _)]
  grind
 ·obtain ⟨i,hci,h1,h2,hk⟩:=hlv 3 (hnd.between h).1 (by omega)
  obtain ⟨m1,m2⟩:=hm i h1 h2 hk
  have hw:=hok.wid h2 h1 (by omega) (lev:=(qd s i).widths.length) (by omega)
  rw [hci,m1]
  refine ⟨by omega,?_⟩
  rw [decB,if_neg (by omega),if_neg (by omega),hci,Int.toNat_natCast,Int.toNat_natCast]
  dsimp only
  rw [if_neg (by omega),hw.2.2.2.2.2.2.2]
  simp
 ·obtain ⟨i,hci,h1,h2,hk⟩:=hlv 3 (hnd.miss h).1 (by omega)
  obtain ⟨m1,m2⟩:=hm i h1 h2 hk
  rw [hci,m1]
  refine ⟨by omega,?_⟩
  rw [decB,if_neg (by omega),if_pos h,Int.toNat_natCast]
  exact decide_eq_true (by omega)
theorem Wk {s:Sch} (hE:schE s = 0) {c:Cnd} (hnd:NdOk s c) (ha:isAt c = true):(decN s c:Int)≤finI s c.col∧decB s c (decN s c) = true∧(∀ m,m < decN s c→decB s c m = false):=by
 obtain ⟨h1,h2⟩:=je2 hE hnd ha
 have h3:=YM (c:=c.col) hE
 obtain ⟨a,b,_,d⟩:=YJ h2 64 0 (by omega) (by omega)
 unfold decN
 exact ⟨by omega,a,fun m hm=>d m (by omega) hm⟩
def qX1 (s:Sch):List Pk→Cnd→List Pk:=fun l a=>WR l a.col (decN s a)
theorem qX2 (s:Sch):∀ (L:List Cnd) (l:List Pk),(L.foldl (qX1 s) l).length≤l.length + L.length
 | [],l=>Nat.le_refl _
 | a :: L,l=>by
   have h1:=qX2 s L (qX1 s l a)
   have h2:=qe3 l a.col (decN s a)
   rw [List.foldl_cons,List.length_cons]
   unfold qX1 at h1 ⊢
   omega
end Go.Proofs
namespace Go.Proofs
open Go Go.TL
set_option maxHeartbeats 4000000
end Go.Proofs
namespace Go.Proofs
open Go Go.TL
set_option maxHeartbeats 4000000
theorem qX3:∀ (m l:List Pk),(Wi l m).length≤l.length + m.length
 | [],l=>Nat.le_refl _
 | p :: m,l=>by
   have h1:=qX3 m (WR l p.col p.lev)
   have h2:=qe3 l p.col p.lev
   unfold Wi at h1 ⊢
   rw [List.foldl_cons,List.length_cons]
   omega
theorem qx1 (s:Sch) (c:Cnd):(jq s c).length≤40:=by
 unfold jq
 split
 ·simp
 ·rename_i h
  obtain ⟨hE,k2,k3,k4⟩:=Wj (Classical.byContradiction h)
  have h1:=qL2 c 41 (by omega) k2
  have h2:=qX2 s (atsC c) []
  simp only [List.length_nil] at h2
  unfold qX1 at h2
  omega
structure QstOk (s:Sch) (q:Qst):Prop where
 sch:schE s = 0
 kind:1≤q.kind∧q.kind≤3
 filt:chkC s q.filt = 0
 dims:q.kind = 1→ZS s q.dims = 0∧(q.meas = -1∨isB s q.meas 3 = true)
 nd:q.dims.length≤3
 terms:q.kind = 2→isB s q.meas 3 = true∧yd s q.meas q.terms = 0
 nt:q.terms.length≤3
 event:q.kind = 3→isB s q.meas 3 = true∧0≤(qd s q.meas.toNat).low∧chkC s q.event = 0
 d0:q.kind≠1→q.dims = []
 t0:q.kind≠2→q.terms = []
 e0:q.kind≠3→YK q.event cnd0 = true
theorem YN {s:Sch} {q:Qst} (h:qstE s q = 0):QstOk s q:=by
 unfold qstE at h
 split at h
 ·rename_i h1;exact absurd h h1
 rename_i h1
 split at h
 ·cases h
 rename_i h2
 split at h
 ·cases h
 rename_i h3
 split at h
 ·rename_i h4;exact absurd h h4
 rename_i h4
 split at h
 ·rename_i h5;exact absurd h h5
 rename_i h5
 split at h
 ·cases h
 rename_i h6
 have hp:kB s q = 0:=Classical.byContradiction h5
 unfold kB at hp
 have hd:q.kind = 1→ZS s q.dims = 0∧(q.meas = -1∨isB s q.meas 3 = true):=fun k=>by
  rw [if_pos k] at hp
  grind
 have ht:q.kind = 2→isB s q.meas 3 = true∧yd s q.meas q.terms = 0:=fun k=>by
  rw [if_neg (by omega),if_pos k] at hp
  grind
 have hd0:q.kind≠1→q.dims = []:=fun k=>List.length_eq_zero_iff.1 (by omega)
 have ht0:q.kind≠2→q.terms = []:=fun k=>List.length_eq_zero_iff.1 (by omega)
 refine ⟨Classical.byContradiction h1,by omega,Classical.byContradiction h4,hd,?_,ht,?_,fun k=>?_,hd0,ht0,fun k=>?_⟩
 ·by_cases k:q.kind = 1
  ·have:=(hd k).1
   unfold ZS at this
   grind
  ·rw [hd0 k];simp
 ·by_cases k:q.kind = 2
  ·have:=(ht k).2
   unfold yd at this
   grind
  ·rw [ht0 k];simp
 ·rw [if_neg (by omega),if_neg (by omega)] at hp
  grind
 ·grind
theorem qG6 (s:Sch):∀ (m l:List Pk),(m.foldl (fun l p=>WR l p.col (jo s p.col p.lev)) l).length≤l.length + m.length
 | [],l=>Nat.le_refl _
 | p :: m,l=>by
   have h1:=qG6 s m (WR l p.col (jo s p.col p.lev))
   have h2:=qe3 l p.col (jo s p.col p.lev)
   rw [List.foldl_cons,List.length_cons]
   omega
theorem qG7 (s:Sch) (q:Qst):∀ (m:List Nat) (l:List Pk),(m.foldl (ql6 s q) l).length≤l.length + m.length
 | [],l=>Nat.le_refl _
 | k :: m,l=>by
   have h1:=qG7 s q m (ql6 s q l k)
   have h2:(ql6 s q l k).length≤l.length + 1:=by
    unfold ql6
    split
    ·exact qe3 _ _ _
    ·omega
   rw [List.foldl_cons,List.length_cons]
   omega
def zJ2 (s:Sch) (q:Qst):List Pk:=if q.kind = 3 then Wi (jq s q.filt) (jq s q.event) else jq s q.filt
theorem zt1 (s:Sch) (q:Qst):(zJ2 s q).length≤80:=by
 have h1:=qx1 s q.filt
 have h2:=qx1 s q.event
 have h3:=qX3 (jq s q.event) (jq s q.filt)
 unfold zJ2
 split <;> omega
theorem qX4 (s:Sch) (q:Qst):(YL s q).length≤100:=by
 unfold YL je0
 split
 ·simp
 ·rename_i h
  have hq:=YN (Classical.byContradiction h)
  have h1:=zt1 s q
  unfold zJ2 at h1
  have h2:=qG6 s q.dims (if q.kind = 3 then Wi (jq s q.filt) (jq s q.event) else jq s q.filt)
  have h3:=qG7 s q (List.range (s.cols.length - 1)) (q.dims.foldl (fun l p=>WR l p.col (jo s p.col p.lev)) (if q.kind = 3 then Wi (jq s q.filt) (jq s q.event) else jq s q.filt))
  have h4:=(qK hq.sch).nc
  have h5:=hq.nd
  rw [List.length_range] at h3
  omega
end Go.Proofs
namespace Go.Proofs
open Go Go.TL
def hd (r:List Int):Int:=r.getD 0 0
def putS (row:List Int):List (List Int)×Bool→List Int→List (List Int)×Bool:=fun x r=>
 if hd r = hd row then x
 else if hd r > hd row∧x.2 = false then (x.1 ++ [row] ++ [r],true)
 else (x.1 ++ [r],x.2)
def putR (l:List (List Int)) (row:List Int):List (List Int):=
 let x:=l.foldl (putS row) ([],false)
 if x.2 then x.1 else x.1 ++ [row]
def atR (id:Int) (r:List Int):Bool:=decide (0 < r.length) && (hd r == id)
def jk2 (s:Src) (id:Int):Int:=if s.rows.any (atR id) = true then (s.rows.findIdx (atR id):Int) else -1
def asc2 (l:List Int) (i:Nat):Bool:=decide (i = 0) || decide (l.getD (i - 1) 0 < l.getD i 0)
def je3 (s:Src):Bool:=(List.range s.rows.length).all fun i=>(rowE s.sch (s.rows.getD i []) == 0) && (decide (i = 0) || decide (hd (s.rows.getD (i - 1) []) < hd (s.rows.getD i [])))
def jk3 (s:Src):Bool:=(List.range s.gone.length).all fun i=>decide (1≤s.gone.getD i 0) && decide (s.gone.getD i 0≤1048575) && asc2 s.gone i && decide (jk2 s (s.gone.getD i 0) < 0)
def srcB (s:Src):Bool:=(schE s.sch == 0) && decide (s.rows.length≤200) && decide (s.gone.length≤300) && decide (0≤s.ver) && decide (s.ver≤300) && je3 s && jk3 s
end Go.Proofs
namespace Go.Proofs
open Go Go.TL
def AscR (l:List (List Int)):Prop:=l.Pairwise fun a b=>hd a < hd b
end Go.Proofs
