/- A part of the proof: trees of Go values, short forms, contracts. -/
import Derived.WalkKit
import Derived.Still
import Derived.MapKept
import GoSem.Builtin.Cap
import Derived.Laws.Externs
import GoSem.Extern.SlicesOverlaps
import Derived.Carry
import Derived.ProofKit
import Derived.OpenShut
import Derived.HandedShaped
import Derived.Lay
import Derived.LaidLaws
import Derived.MakeChecks
import Derived.SevenTiedAt
import Derived.Test.YtiddpnhnaooohaaGreatDoorChecked
import Derived.Test.YtiddpnhnaooohaaGreatDoorK15
set_option linter.unusedSimpArgs false
set_option linter.unusedVariables false
namespace Go.Proofs
open Go Go.TL
theorem jb (n lo hi:Int):Spc Tryz.prog zD [vI n,vI lo,vI hi] [] (vB (inB n lo hi)) []:=by
 refine qd zn5 mixm (by simp) fun e _ hst=>qj ?_
 unfold qc6
 refine sW ?_
 rw [show (decide (lo≤n) && decide (n≤hi)) = inB n lo hi from rfl]
 exact .oA [] []
theorem zi0 {ws:List Int}:∀ {i:Nat},(∀ j,j < i→wdOk ws j = true)→∀ j,j < i→1≤ws.getD j 0
 | 0,_,j,h=>by omega
 | i + 1,hw,j,h=>by
   have ih:=zi0 (ws:=ws) (i:=i) fun j hj=>hw j (by omega)
   have:=hw j h
   unfold wdOk at this
   split at this
   ·rename_i e;subst e
    have:ws.getD 0 0 = 1:=by simpa using this
    omega
   ·simp only [Bool.and_eq_true,decide_eq_true_eq] at this
    have:=ih (j - 1) (by omega)
    omega
theorem qE5 (c:Col):Spc Tryz.prog Zr [colT c] [] (vI (measE c)) []:=by
 refine qd qv7 mixm (by simp) fun e _ hst=>qj ?_
 unfold QM
 refine sW ?_
 refine C1.im (jb c.low (-1000000) 1000000) (by rfl) (by rfl) ?_
 refine sW ?_
 refine C2.im (fun _=>jb c.high (-1000000) 1000000) (fun _=>rfl) (by rfl) ?_
 simp only [tZ,↓un_u,simprocAttr,tD,Bool.not_eq_true',Bool.not_eq_false']
 refine ⟨fun h=>?_,fun h=>?_⟩
 ·rw [measE,if_pos (by grind)]
  exact .oA [] []
 ·refine ⟨fun h2=>?_,fun h2=>?_⟩
  ·rw [measE,if_neg (by grind),if_pos (by grind)]
   exact .oA [] []
  ·have hm:measE c = if jd1 c.widths = false then 2 else 0:=by rw [measE,if_neg (by grind),if_neg (by grind)]
   refine qw mixm (α:=Nat) [3] (fun i=>i≤c.widths.length∧(∀ j,j < i→wdOk c.widths j = true)) (fun i=>[(3,vI i)]) (fun i=>[(4096,.arr 7 [colT c] false)]) (fun i=>c.widths.length - i) 0 ⟨by omega,?_⟩ ?_ fun i hi=>?_
   ·intro j hj;omega
   ·exact .oA [(4096,some 4096)] []
   have hbad:i < c.widths.length→wdOk c.widths i = false→measE c = 2:=fun h1 h2=>by
    rw [hm,if_pos]
    exact List.all_eq_false.2 ⟨i,List.mem_range.2 h1,by rw [h2];simp⟩
   have hok:wdOk c.widths i = true→∀ j,j < i + 1→wdOk c.widths j = true:=fun h1 j hj=>by
    by_cases e:j = i
    ·rw [e];exact h1
    ·exact hi.2 j (by omega)
   simp only [tZ,↓un_u,simprocAttr,decide_eq_true_eq,decide_eq_false_iff_not]
   refine ⟨fun h=>?_,fun h=>?_⟩
   ·rcases Nat.eq_zero_or_pos i with h0 | h0
    ·subst h0
     have hw0:wdOk c.widths 0 = (c.widths.getD 0 0 == 1):=by rw [wdOk,if_pos rfl]
     have hlen:0 < c.widths.length:=by omega
     rw [qh hlen] at hw0
     have hz:((0:Nat):Int) = 0:=rfl
     have hz2:(IntKind.i64.wrap (-1)).toNat = 0:=by decide
     have hz3:=qk (i:=0) (by omega)
     rw [hz] at hz3
     simp only [tZ,↓un_u,simprocAttr,Int.toNat_natCast,hz,beq_self_eq_true,gt_iff_lt,Int.lt_irrefl,Bool.true_and,hz2,qe hlen,hz3]
     refine ⟨by omega,fun h3=>?_,fun h3=>?_⟩
     ·rw [hbad hlen (by rw [hw0];simpa using h3)]
      exact .oA [] []
     ·refine ⟨1,⟨by omega,hok (by rw [hw0];simpa using h3)⟩,by omega,?_⟩
      exact .oA [(4096,some 4096)] []
    ·obtain ⟨k,rfl⟩:∃ k,i = k + 1:=⟨i - 1,by omega⟩
     have hk2:k + 1 < c.widths.length:=by omega
     have hk3:k < c.widths.length:=by omega
     have e1:(((k + 1:Nat):Int) == 0) = false:=beq_eq_false_iff_ne.2 (by omega)
     have e2:decide (((k + 1:Nat):Int) > 0) = true:=decide_eq_true (by omega)
     have hw1:wdOk c.widths (k + 1) = (decide (c.widths[k] < c.widths[k + 1]) && decide (c.widths[k + 1]≤1000000) && (c.widths[k + 1].tmod c.widths[k] == 0)):=by
          rw [wdOk,if_neg (by omega),Nat.add_sub_cancel,qh hk2,qh hk3]
     have hp1:=zi0 (ws:=c.widths) hi.2 k (by omega)
     rw [qh hk3] at hp1
     have hws:=qk (i:=k + 1) (by omega)
     have e3:=ZZ (i:=k + 1) (by omega) (by omega)
     rw [Nat.add_sub_cancel] at e3
     simp only [tZ,↓un_u,simprocAttr,Int.toNat_natCast,qe hk2,qe hk3,e1,e2,e3,hws]
     refine ⟨by omega,by omega,fun _=>by omega,fun _=>by omega,fun h3=>?_,fun h3=>?_⟩
     ·rw [hbad hk2 (by rw [hw1];grind)]
      exact .oA [] []
     ·refine ⟨k + 2,⟨by omega,hok (by rw [hw1];grind)⟩,by omega,?_⟩
      exact .oA [(4096,some 4096)] []
   ·have hi2:i = c.widths.length:=by omega
    subst hi2
    rw [hm,if_neg]
    ·exact .oA [] []
    ·rw [Bool.not_eq_false]
     exact List.all_eq_true.2 fun j hj=>hi.2 j (List.mem_range.1 hj)
theorem qM2 (s:Sch) (i:Nat) (hi:i < s.cols.length) (hn:s.cols.length < 4611686018427387904) (hl:s.lists.length < 4611686018427387904):Spc Tryz.prog Jk [schT s,vI i] [] (vI (colE s i)) []:=by
 have hat:qg s i = s.cols[i]:=by rw [qg,qh hi]
 have hE:colE s i = if ky s.cols[i].name = false then 3
  else if ((s.cols.take i).any fun x=>eqB x.name s.cols[i].name) = true then 10
  else if inB s.cols[i].kind 1 3 = false∨(0 < i∧s.cols[i].kind = 1) then 4
  else if s.cols[i].kind = 2∧inB s.cols[i].list 0 (s.lists.length - 1) = false then 5
  else if s.cols[i].kind = 3∧measE s.cols[i]≠0 then measE s.cols[i]
  else if (s.cols[i].kind≠2∧s.cols[i].list≠0)∨(s.cols[i].kind≠3∧(s.cols[i].low≠0∨s.cols[i].high≠0∨0 < s.cols[i].widths.length∨s.cols[i].opt = true)) then 11 else 0:=by rw [colE,hat]
 rw [hE]
 refine qd qD9 mixm (by simp) fun e _ hst=>qj ?_
 unfold ZI
 simp only [tZ,↓un_u,simprocAttr,Int.toNat_natCast,qe hi]
 generalize s.cols[i] = c
 refine ⟨by omega,?_⟩
 refine C1.im (Ym c.name) (by rfl) (by rfl) ?_
 simp only [tZ,↓un_u,simprocAttr,Bool.not_eq_true',Bool.not_eq_false']
 refine ⟨fun h=>?_,fun h=>?_⟩
 ·rw [if_pos h]
  exact .oA [] []
 rw [if_neg (by rw [h];simp)]
 refine qw mixm (α:=Nat) [6] (fun k=>k≤i∧(s.cols.take k).any (fun x=>eqB x.name c.name) = false) (fun k=>[(6,vI k)]) (fun k=>[(4096,.arr 2 [schT s] false),(8212,.arr 7 [colT c] false)]) (fun k=>i - k) 0 ⟨by omega,rfl⟩ ?_ fun k hk=>?_
 ·exact .oA [(4096,some 4096),(8212,some 8212)] []
 simp only [tZ,↓un_u,simprocAttr,decide_eq_true_eq,decide_eq_false_iff_not]
 refine ⟨fun h=>?_,fun h=>?_⟩
 ·have hk2:k < s.cols.length:=by omega
  have hwk:=qk (i:=k) (by omega)
  simp only [tZ,↓un_u,simprocAttr,Int.toNat_natCast,qe hk2,hwk]
  refine ⟨by omega,by kernel_rfl,fun h7=>?_,fun h7=>?_⟩
  ·rw [if_pos (List.any_eq_true.2 ⟨s.cols[k],List.mem_take_iff_getElem.2 ⟨k,by omega,rfl⟩,h7⟩)]
   exact .oA [] []
  ·refine ⟨k + 1,⟨by omega,jB hk2 hk.2 h7⟩,by omega,?_⟩
   exact .oA [(4096,some 4096),(8212,some 8212)] []
 ·have hki:k = i:=by omega
  subst hki
  rw [if_neg (by rw [hk.2];simp)]
  refine C1.im (jb c.kind 1 3) (by rfl) (by rfl) ?_
  simp only [tZ,↓un_u,simprocAttr,tD,Bool.not_eq_true',Bool.not_eq_false',beq_iff_eq,beq_eq_false_iff_ne]
  refine ⟨fun h7=>?_,fun h7=>?_⟩
  ·rw [if_pos (by grind)]
   exact .oA [] []
  rw [if_neg (by grind)]
  have hw:IntKind.i64.wrap ((s.lists.length:Int) - 1) = (s.lists.length:Int) - 1:=IntWalk.i64_in _ (by omega)
  simp only [tZ,↓un_u,simprocAttr,hw]
  refine C2.im (fun _=>jb c.list 0 ((s.lists.length:Int) - 1)) (fun _=>rfl) (by rfl) ?_
  simp only [tZ,↓un_u,simprocAttr,tD,Bool.not_eq_true',Bool.not_eq_false',beq_iff_eq,beq_eq_false_iff_ne]
  refine ⟨fun h8=>?_,fun h8=>?_⟩
  ·rw [if_pos (by grind)]
   exact .oA [] []
  rw [if_neg (by grind)]
  have hend:∀ v:Int,(if c.kind = 3∧¬measE c = 0 then measE c else if ¬c.kind = 2∧¬c.list = 0∨¬c.kind = 3∧(¬c.low = 0∨¬c.high = 0∨0 < c.widths.length∨c.opt = true) then 11 else 0) = v→Qk [] (T.v (Value.int IntKind.i64 v)) [(4096,Ob.arr 2 [schT s] false),(8212,Ob.arr 7 [colT c] false)] (vI (if c.kind = 3∧¬measE c = 0 then measE c else if ¬c.kind = 2∧¬c.list = 0∨¬c.kind = 3∧(¬c.low = 0∨¬c.high = 0∨0 < c.widths.length∨c.opt = true) then 11 else 0)) []:=fun v hv=>by
   rw [hv]
   exact .oA [] []
  refine ⟨fun h9=>?_,fun h9=>?_⟩
  ·refine C1.im (qE5 c) (by rfl) (by rfl) ?_
   simp only [tZ,↓un_u,simprocAttr,bne_iff_ne,bne_eq_false_iff_eq]
   refine ⟨fun h10=>hend _ (by rw [if_pos ⟨h9,h10⟩]),fun h10=>?_⟩
   simp only [tZ,↓un_u,simprocAttr,tD,bne_iff_ne,bne_eq_false_iff_eq]
   exact ⟨fun h11=>hend _ (by rw [if_neg (by grind),if_pos (by grind)]),fun h11=>hend _ (by rw [if_neg (by grind),if_neg (by grind)])⟩
  ·simp only [tZ,↓un_u,simprocAttr,tD,bne_iff_ne,bne_eq_false_iff_eq]
   exact ⟨fun h11=>hend _ (by rw [if_neg (by grind),if_pos (by grind)]),fun h11=>hend _ (by rw [if_neg (by grind),if_neg (by grind)])⟩
theorem qE6 {s:Sch} {i:Nat} (h:wI s i≠0):∀ n,i≤n→wI s n = wI s i:=by
 intro n hn
 induction n with
 | zero=>have:i = 0:=by omega
         rw [this]
 | succ n ih=>
   by_cases e:i = n + 1
   ·rw [e]
   ·have:=ih (by omega)
    rw [wI,this,if_pos h]
theorem qE7 {s:Sch} {i:Nat} (h:Kg s i≠0):∀ n,i≤n→Kg s n = Kg s i:=by
 intro n hn
 induction n with
 | zero=>have:i = 0:=by omega
         rw [this]
 | succ n ih=>
   by_cases e:i = n + 1
   ·rw [e]
   ·have:=ih (by omega)
    rw [Kg,this,if_pos h]
def Qp (s:Sch):Prop:=s.lists.length < 4611686018427387904∧s.cols.length < 4611686018427387904∧∀ l∈s.lists,l.codes.length < 4611686018427387904
theorem yr (s:Sch) (hs:Qp s):Spc Tryz.prog jF [schT s] [] (vI (schE s)) []:=by
 obtain ⟨hs1,hs2,hs3⟩:=hs
 refine qd qJ2 mixm (by simp) fun e _ hst=>qj ?_
 unfold Jv
 refine sD ?_
 refine ⟨fun h=>?_,fun h=>?_⟩
 ·rw [schE,if_pos (by omega)]
  exact .oA [] []
 have hE1:wI s s.lists.length≠0→schE s = wI s s.lists.length:=fun k=>by rw [schE,if_neg (by omega),if_pos k]
 refine qw mixm (α:=Nat) [3,17] (fun i=>i≤s.lists.length∧wI s i = 0) (fun i=>[(3,vI i)]) (fun i=>[(4096,.arr 2 [schT s] false)]) (fun i=>s.lists.length - i) 0 ⟨by omega,rfl⟩ ?_ fun i hi=>?_
 ·exact .oA [(4096,some 4096)] []
 obtain ⟨i1,i2⟩:=hi
 refine sD ?_
 refine ⟨fun h2=>?_,fun h2=>?_⟩
 ·have hi2:i < s.lists.length:=by omega
  have hwi:=qk (i:=i) (by omega)
  have hat:s.lists.getD i default = s.lists[i]:=qh hi2
  have hstep:wI s (i + 1) = if lstE s.lists[i]≠0 then lstE s.lists[i] else if ((s.lists.take i).any fun x=>eqB x.name s.lists[i].name) = true then 10 else 0:=by
   rw [wI,if_neg (by rw [i2];simp),hat]
  have hbad:wI s (i + 1)≠0→schE s = wI s (i + 1):=fun k=>by
   have:=qE6 k s.lists.length (by omega)
   rw [hE1 (by rw [this];exact k),this]
  simp only [tZ,↓un_u,simprocAttr,Int.toNat_natCast,qe hi2,hwi]
  refine ⟨by omega,?_⟩
  refine C1.im (yq s.lists[i] (hs3 _ (List.getElem_mem hi2))) (by rfl) (by rfl) ?_
  simp only [tZ,↓un_u,simprocAttr,bne_iff_ne,bne_eq_false_iff_eq]
  refine ⟨fun h3=>?_,fun h3=>?_⟩
  ·rw [if_pos h3] at hstep
   rw [hbad (by rw [hstep];exact h3),hstep]
   exact .oA [] []
  rw [if_neg (by rw [h3];simp)] at hstep
  refine qw mixm (α:=Nat) [5] (fun k=>k≤i∧(s.lists.take k).any (fun x=>eqB x.name s.lists[i].name) = false) (fun k=>[(5,vI k)]) (fun k=>[(4096,.arr 2 [schT s] false)]) (fun k=>i - k) 0 ⟨by omega,rfl⟩ ?_ fun k hk=>?_
  ·exact .oA [(4096,some 4096)] []
  simp only [tZ,↓un_u,simprocAttr,decide_eq_true_eq,decide_eq_false_iff_not]
  refine ⟨fun h=>?_,fun h=>?_⟩
  ·have hk2:k < s.lists.length:=by omega
   have hwk:=qk (i:=k) (by omega)
   simp only [tZ,↓un_u,simprocAttr,Int.toNat_natCast,qe hk2,qe hi2,hwk]
   refine ⟨by omega,by omega,by kernel_rfl,fun h7=>?_,fun h7=>?_⟩
   ·rw [if_pos (List.any_eq_true.2 ⟨s.lists[k],List.mem_take_iff_getElem.2 ⟨k,by omega,rfl⟩,h7⟩)] at hstep
    rw [hbad (by rw [hstep];simp),hstep]
    exact .oA [] []
   ·refine ⟨k + 1,⟨by omega,jB hk2 hk.2 h7⟩,by omega,?_⟩
    exact .oA [(4096,some 4096)] []
  ·have hki:k = i:=by omega
   subst hki
   rw [if_neg (by rw [hk.2];simp)] at hstep
   simp only [tZ,↓un_u,simprocAttr,hwi]
   refine ⟨k + 1,⟨by omega,hstep⟩,by omega,?_⟩
   exact .oA [(4096,some 4096)] []
 ·have hil:i = s.lists.length:=by omega
  subst hil
  have hE2:s.cols.length = 0∨(qg s 0).kind≠1→schE s = 7:=fun k=>by rw [schE,if_neg (by omega),if_neg (by rw [i2];simp),if_pos k]
  have hE3:¬ (s.cols.length = 0∨(qg s 0).kind≠1)→schE s = Kg s s.cols.length:=fun k=>by rw [schE,if_neg (by omega),if_neg (by rw [i2];simp),if_neg k]
  have hz:((0:Nat):Int) = 0:=rfl
  by_cases h0:s.cols.length = 0
  ·have hn:s.cols = []:=List.length_eq_zero_iff.1 h0
   rw [hE2 (.inl h0)]
   simp only [tZ,↓un_u,simprocAttr,hn,List.length_nil,hz,beq_self_eq_true]
   exact .oA [] []
  ·have h0p:0 < s.cols.length:=by omega
   have e0:((s.cols.length:Int) == 0) = false:=beq_eq_false_iff_ne.2 (by omega)
   have hc0:qg s 0 = s.cols[0]:=by rw [qg,qh h0p]
   simp only [tZ,↓un_u,simprocAttr,e0,qe h0p,bne_iff_ne,bne_eq_false_iff_eq,Bool.false_or]
   refine ⟨by omega,fun h3=>?_,fun h3=>?_⟩
   ·rw [hE2 (.inr (by rw [hc0];exact h3))]
    exact .oA [] []
   have hE4:=hE3 (by rw [hc0];grind)
   refine qw mixm (α:=Nat) [6,63] (fun i=>i≤s.cols.length∧Kg s i = 0) (fun i=>[(6,vI i)]) (fun i=>[(4096,.arr 2 [schT s] false)]) (fun i=>s.cols.length - i) 0 ⟨by omega,rfl⟩ ?_ fun i hi=>?_
   ·exact .oA [(4096,some 4096)] []
   simp only [tZ,↓un_u,simprocAttr,decide_eq_true_eq,decide_eq_false_iff_not]
   refine ⟨fun h=>?_,fun h=>?_⟩
   ·have hi2:i < s.cols.length:=by omega
    have hwi:=qk (i:=i) (by omega)
    have hstep:Kg s (i + 1) = colE s i:=by rw [Kg,if_neg (by rw [hi.2];simp)]
    refine C1.im (qM2 s i hi2 hs2 hs1) (by rfl) (by rfl) ?_
    simp only [tZ,↓un_u,simprocAttr,bne_iff_ne,bne_eq_false_iff_eq,hwi]
    refine ⟨fun h4=>?_,fun h4=>?_⟩
    ·have:=qE7 (s:=s) (i:=i + 1) (by rw [hstep];exact h4) s.cols.length (by omega)
     rw [hE4,this,hstep]
     exact .oA [] []
    ·refine ⟨i + 1,⟨by omega,by rw [hstep];exact h4⟩,by omega,?_⟩
     exact .oA [(4096,some 4096)] []
   ·have hi2:i = s.cols.length:=by omega
    subst hi2
    rw [hE4,hi.2]
    exact .oA [] []
end Go.Proofs
namespace Go.Proofs
open Go Go.TL
theorem SchOk.sm {s:Sch} (h:SchOk s):Qp s:=by
 have h1:=h.nl
 have h2:=h.nc
 refine ⟨by omega,by omega,fun l hl=>?_⟩
 obtain ⟨i,hi,rfl⟩:=List.getElem_of_mem hl
 have h3:=h.ls i hi
 rw [qh hi] at h3
 have:=(zc h3).2.2
 omega
theorem qe0 {l:CodL} : -1≤zk l∧zk l≤60:=by
 unfold zk
 split
 ·omega
 ·rename_i h
  obtain ⟨hp,h1,h2⟩:=zc (Classical.byContradiction h)
  have:=qt2 hp (l.codes.length - 1) (by omega)
  omega
theorem qk4 (s:Sch) (h:SchOk s) (i:Nat) (hi:i < s.cols.length) (v:Int):Spc Tryz.prog QS [schT s,vI i,vI v] [] (vB (zd s i v)) []:=by
 have hat:qg s i = s.cols[i]:=by rw [qg,qh hi]
 have hk:=qU (h.cs i hi)
 have hcd:=fun e=>h.cdl hi e
 have hE:zd s i v = if s.cols[i].kind = 1 then inB v 1 1048575
  else if s.cols[i].kind = 2 then inB v 0 ((qG s i).codes.length - 1) && (lvlC (qG s i) v == zk (qG s i) - 1)
  else (s.cols[i].opt && (v == qY)) || inB v s.cols[i].low s.cols[i].high:=by rw [zd,hat]
 have hcl:qG s i = s.lists.getD s.cols[i].list.toNat default:=by rw [qG,hat]
 rw [hat] at hk hcd
 rw [hE]
 rw [hcl] at hcd ⊢
 refine qd qH6 mixm (by simp) fun e _ hst=>qj ?_
 unfold Jn
 simp only [tZ,↓un_u,simprocAttr,Int.toNat_natCast,qe hi]
 generalize s.cols[i] = c at hk hcd ⊢
 simp only [tZ,↓un_u,simprocAttr,beq_iff_eq,beq_eq_false_iff_ne]
 refine ⟨by omega,fun h1=>?_,fun h1=>⟨fun h2=>?_,fun h2=>?_⟩⟩
 ·rw [if_pos h1]
  refine C1.im (jb v 1 1048575) (by rfl) (by rfl) ?_
  refine sW ?_
  exact .oA [] []
 ·obtain ⟨d1,d2⟩:=hcd h2
  obtain ⟨d3,d4⟩:=hk.2.2.2.1 h2
  have hgl:s.lists.getD c.list.toNat default = s.lists[c.list.toNat]:=qh d1
  rw [if_neg h1,if_pos h2]
  rw [hgl] at d2 ⊢
  obtain ⟨_,d5,d6⟩:=zc d2
  simp only [tZ,↓un_u,simprocAttr,qe d1]
  generalize s.lists[c.list.toNat] = l at d2 d5 d6 ⊢
  have hw:IntKind.i64.wrap ((l.codes.length:Int) - 1) = (l.codes.length:Int) - 1:=IntWalk.i64_in _ (by omega)
  have hlv:=qe0 (l:=l)
  have hw2:IntKind.i64.wrap (zk l - 1) = zk l - 1:=IntWalk.i64_in _ (by omega)
  simp only [tZ,↓un_u,simprocAttr,hw]
  refine ⟨by omega,?_⟩
  refine C1.im (jb v 0 _) (by rfl) (by rfl) ?_
  refine sW ?_
  refine C2.im (fun _=>KV l v (by omega)) (fun _=>rfl) (by rfl) ?_
  refine sW ?_
  refine C2.im (fun _=>JM l (by omega)) (fun _=>rfl) (by rfl) ?_
  simp only [tZ,↓un_u,simprocAttr,hw2]
  refine ⟨by kernel_rfl,?_⟩
  exact .oA [] []
 ·rw [if_neg h1,if_neg h2]
  refine C2.im (fun _=>jb v c.low c.high) (fun _=>rfl) (by rfl) ?_
  refine sW ?_
  rw [show (c.opt && v == -1099511627776) = (c.opt && (v == qY)) from rfl]
  exact .oA [] []
theorem jd4 {s:Sch} {row:List Int} {i:Nat} (h1:schE s = 0) (h2:row.length = s.cols.length) (hi:i < row.length) (h:zd s i row[i] = false):rowE s row = 9:=by
 rw [rowE,if_neg (by rw [h1];simp),if_neg (by omega),if_pos]
 exact List.all_eq_false.2 ⟨i,List.mem_range.2 hi,by rw [qh hi,h];simp⟩
theorem zo7 (s:Sch) (hs:Qp s) (row:List Int) (hr:row.length < 4611686018427387904):Spc Tryz.prog qb7 [schT s,vIs row] [] (vI (rowE s row)) []:=by
 refine qd zh1 mixm (by simp) fun e _ hst=>qj ?_
 unfold WY
 refine sW ?_
 refine C1.im (yr s hs) (by rfl) (by rfl) ?_
 simp only [tZ,↓un_u,simprocAttr,bne_iff_ne,bne_eq_false_iff_eq]
 refine ⟨fun h=>?_,fun h=>⟨fun h2=>?_,fun h2=>?_⟩⟩
 ·rw [rowE,if_pos h]
  exact .oA [] []
 ·rw [rowE,if_neg (by rw [h];simp),if_pos (by omega)]
  exact .oA [] []
 have hok:=qJ h
 have h0:=h
 refine qw mixm (α:=Nat) [6] (fun i=>i≤row.length∧(∀ j,j < i→zd s j (row.getD j 0) = true)) (fun i=>[(6,vI i)]) (fun i=>[(4096,.arr 2 [schT s] false)]) (fun i=>row.length - i) 0 ⟨by omega,?_⟩ ?_ fun i hi=>?_
 ·intro j hj;omega
 ·exact .oA [(4096,some 4096)] []
 simp only [tZ,↓un_u,simprocAttr,decide_eq_true_eq,decide_eq_false_iff_not]
 refine ⟨fun h=>?_,fun h=>?_⟩
 ·have hi2:i < row.length:=by omega
  have hwi:=qk (i:=i) (by omega)
  simp only [tZ,↓un_u,simprocAttr,Int.toNat_natCast,qe hi2,hwi]
  refine ⟨by omega,?_⟩
  refine C1.im (qk4 s hok i (by omega) row[i]) (by rfl) (by rfl) ?_
  simp only [tZ,↓un_u,simprocAttr,Bool.not_eq_true',Bool.not_eq_false']
  refine ⟨by kernel_rfl,fun h3=>?_,fun h3=>?_⟩
  ·rw [jd4 h0 (by omega) hi2 h3]
   exact .oA [] []
  ·refine ⟨i + 1,⟨by omega,fun j hj=>?_⟩,by omega,?_⟩
   ·by_cases e:j = i
    ·rw [e,qh hi2];exact h3
    ·exact hi.2 j (by omega)
   ·exact .oA [(4096,some 4096)] []
 ·have hi2:i = row.length:=by omega
  subst hi2
  rw [zU8 h0 (by omega) hi.2]
  exact .oA [] []
theorem Qg (s:Sch) (hs:Qp s) (c:Int):Spc Tryz.prog jQ [schT s,vI c] [] (vI (finI s c)) []:=by
 have hs2:=hs.2.1
 refine qd qC1 mixm (by simp) fun e _ hst=>qj ?_
 unfold Zx
 refine sW ?_
 refine C1.im (yr s hs) (by rfl) (by rfl) ?_
 simp only [tZ,↓un_u,simprocAttr,tD,bne_iff_ne,bne_eq_false_iff_eq]
 refine ⟨fun h=>?_,fun h=>?_⟩
 ·rw [finI,if_pos (by omega)]
  exact .oA [] []
 have hok:=qJ h.1.1
 obtain ⟨i,rfl⟩:=Int.eq_ofNat_of_zero_le (show 0≤c by omega)
 have hi:i < s.cols.length:=by omega
 have hat:qg s i = s.cols[i]:=by rw [qg,qh hi]
 have hk:=qU (hok.cs i hi)
 have hcd:=fun e=>hok.cdl hi e
 have hcl:qG s i = s.lists.getD s.cols[i].list.toNat default:=by rw [qG,hat]
 rw [hat] at hk hcd
 rw [hcl] at hcd
 rw [finI,if_neg (by omega),Int.toNat_natCast,hcl,hat]
 simp only [tZ,↓un_u,simprocAttr,Int.toNat_natCast,qe hi]
 generalize s.cols[i] = x at hk hcd ⊢
 simp only [tZ,↓un_u,simprocAttr,beq_iff_eq,beq_eq_false_iff_ne]
 refine ⟨by omega,fun h2=>?_,fun h2=>?_⟩
 ·obtain ⟨d1,d2⟩:=hcd h2
  obtain ⟨d3,d4⟩:=hk.2.2.2.1 h2
  have hgl:s.lists.getD x.list.toNat default = s.lists[x.list.toNat]:=qh d1
  rw [if_pos h2]
  rw [hgl] at d2 ⊢
  obtain ⟨_,d5,d6⟩:=zc d2
  simp only [tZ,↓un_u,simprocAttr,qe d1]
  generalize s.lists[x.list.toNat] = l at d2 d5 d6 ⊢
  have hlv:=qe0 (l:=l)
  have hw2:IntKind.i64.wrap (zk l - 1) = zk l - 1:=IntWalk.i64_in _ (by omega)
  refine ⟨by omega,?_⟩
  refine C1.im (JM l (by omega)) (by rfl) (by rfl) ?_
  simp only [tZ,↓un_u,simprocAttr,hw2]
  exact .oA [] []
 ·rw [if_neg h2]
  exact .oA [] []
theorem zz2 {a b:Int} (hb:0 < b):qA a b = if a.tmod b < 0 then a.tdiv b - 1 else a.tdiv b:=by
 have h1:=Int.mul_tdiv_add_tmod a b
 have h2:=Int.tmod_lt_of_pos a hb
 have h3:=Int.lt_tmod_of_pos a hb
 unfold qA
 rw [Int.fdiv_eq_ediv_of_nonneg _ (by omega)]
 split
 ·refine ((Int.ediv_emod_unique (r:=a.tmod b + b) hb).2 ⟨?_,by omega,by omega⟩).1
  rw [Int.mul_sub];omega
 ·refine ((Int.ediv_emod_unique (r:=a.tmod b) hb).2 ⟨by omega,by omega,by omega⟩).1
theorem qV9 (a b:Int) (hb:0 < b) (ha : -4611686018427387904 < a∧a < 4611686018427387904):Spc Tryz.prog Kz [vI a,vI b] [] (vI (qA a b)) []:=by
 rw [zz2 hb]
 have hq:=Int.natAbs_tdiv_le_natAbs a b
 have hw:IntKind.i64.wrap (a.tdiv b) = a.tdiv b:=IntWalk.i64_in _ (by omega)
 have hw2:IntKind.i64.wrap (a.tdiv b - 1) = a.tdiv b - 1:=IntWalk.i64_in _ (by omega)
 refine qd qI4 mixm (by simp) fun e _ hst=>qj ?_
 unfold Jr
 simp only [tZ,↓un_u,simprocAttr,hw,hw2,tD]
 refine ⟨by omega,by omega,fun h=>?_,fun h=>?_⟩
 ·rw [if_pos h]
  exact .oA [] []
 ·rw [if_neg h]
  exact .oA [] []
theorem KW (c:Col) (lev:Int) (h1:1≤lev∧lev≤c.widths.length) (h2:c.widths.length < 4611686018427387904):Spc Tryz.prog wS [colT c,vI lev] [] (vI (qE c lev)) []:=by
 have hw:IntKind.i64.wrap ((c.widths.length:Int) - lev) = (c.widths.length:Int) - lev:=IntWalk.i64_in _ (by omega)
 have hk:((c.widths.length:Int) - lev).toNat < c.widths.length:=by omega
 refine qd qI2 mixm (by simp) fun e _ hst=>qj ?_
 unfold Jq
 simp only [tZ,↓un_u,simprocAttr,hw,qe hk]
 rw [qE,qh hk]
 refine ⟨by omega,?_⟩
 exact .oA [] []
end Go.Proofs
namespace Go.Proofs
open Go Go.TL
namespace Cnd
mutual
theorem ind' {p:Cnd→Prop} (h:∀ c,(∀ k∈c.kids,p k)→p c):∀ c,p c
 | .mk _ _ _ _ _ ks=>h _ (inds h ks)
theorem inds {p:Cnd→Prop} (h:∀ c,(∀ k∈c.kids,p k)→p c):∀ ks:List Cnd,∀ k∈ks,p k
 | [],_,hk=>absurd hk (by simp)
 | x :: r,k,hk=>by
   rcases List.mem_cons.1 hk with e | hk
   ·rw [e];exact ind' h x
   ·exact inds h r k hk
end
end Cnd
mutual
def cntC:Cnd→Int→Int
 | .mk _ _ _ _ _ ks,m=>kz ks m 1
def kz:List Cnd→Int→Int→Int
 | [],_,n=>n
 | k :: r,m,n=>if n < m then kz r m (n + cntC k (m - n)) else n
end
theorem JN (c:Cnd) (m:Int):cntC c m = kz c.kids m 1:=by cases c;rw [cntC];rfl
mutual
def depC:Cnd→Nat
 | .mk _ _ _ _ _ ks=>jO ks + 1
def jO:List Cnd→Nat
 | []=>0
 | k :: r=>max (depC k) (jO r)
end
theorem qp9 (c:Cnd):depC c = jO c.kids + 1:=by cases c;rw [depC];rfl
def isB (s:Sch) (col kind:Int):Bool:=decide (0≤col) && decide (col < s.cols.length) && ((qg s col.toNat).kind == kind)
def arC (op:Int):Nat:=if op = 5∨op = 6 then 2 else if op = 7 then 1 else 0
def ndE (s:Sch) (c:Cnd):Int:=
 if c.op < 1∨7 < c.op then 4
 else if c.kids.length≠arC c.op∨(c.op≠2∧c.op≠3∧c.op≠4∧c.col≠0)∨(c.op≠2∧c.code≠0)∨(c.op≠3∧(c.lo≠0∨c.hi≠0)) then 11
 else if (c.op = 2∧isB s c.col 2 = false)∨(c.op = 3∧isB s c.col 3 = false)∨(c.op = 4∧(isB s c.col 3 = false∨(qg s c.col.toNat).opt = false)) then 7
 else if c.op = 2∧(c.code < 0∨c.code≥(qG s c.col.toNat).codes.length) then 6
 else if c.op = 3∧(c.lo < -1000000∨c.hi > 1000000∨c.lo > c.hi) then 2 else 0
mutual
def nodE (s:Sch):Cnd→Int
 | .mk op col code lo hi ks=>if ndE s (.mk op col code lo hi ks)≠0 then ndE s (.mk op col code lo hi ks) else yA s ks
def yA (s:Sch):List Cnd→Int
 | []=>0
 | k :: r=>if nodE s k≠0 then nodE s k else yA s r
end
theorem qW0 (s:Sch) (c:Cnd):nodE s c = if ndE s c≠0 then ndE s c else yA s c.kids:=by cases c;rw [nodE];rfl
def chkC (s:Sch) (c:Cnd):Int:=if schE s≠0 then schE s else if cntC c 41 > 40 then 1 else if depC c > 10 then 22 else nodE s c
theorem zi1 {s:Sch}:∀ {l:List Cnd},yA s l = 0→∀ k∈l,nodE s k = 0
 | [],_,k,hk=>absurd hk (by simp)
 | x :: r,h,k,hk=>by
   rw [yA] at h
   split at h
   ·rename_i h1;exact absurd h h1
   ·rename_i h1
    rcases List.mem_cons.1 hk with e | hk
    ·rw [e];exact Classical.byContradiction h1
    ·exact zi1 h k hk
theorem zo8 {s:Sch} {c:Cnd} (h:nodE s c = 0):ndE s c = 0∧∀ k∈c.kids,nodE s k = 0:=by
 rw [qW0] at h
 split at h
 ·rename_i h1;exact absurd h h1
 ·rename_i h1
  exact ⟨Classical.byContradiction h1,zi1 h⟩
theorem zt {s:Sch} {col kind:Int}:isB s col kind = true↔0≤col∧col < s.cols.length∧(qg s col.toNat).kind = kind:=by
 unfold isB
 simp only [Bool.and_eq_true,decide_eq_true_eq,beq_iff_eq,and_assoc]
structure NdOk (s:Sch) (c:Cnd):Prop where
 op:1≤c.op∧c.op≤7
 nk:c.kids.length = arC c.op
 under:c.op = 2→isB s c.col 2 = true∧0≤c.code∧c.code < (qG s c.col.toNat).codes.length
 between:c.op = 3→isB s c.col 3 = true∧-1000000≤c.lo∧c.hi≤1000000∧c.lo≤c.hi
 miss:c.op = 4→isB s c.col 3 = true∧(qg s c.col.toNat).opt = true
theorem zz3 {s:Sch} {c:Cnd} (h:ndE s c = 0):NdOk s c:=by
 unfold ndE at h
 split at h
 ·cases h
 rename_i h1
 split at h
 ·cases h
 rename_i h2
 split at h
 ·cases h
 rename_i h3
 split at h
 ·cases h
 rename_i h4
 split at h
 ·cases h
 rename_i h5
 refine ⟨by omega,Classical.byContradiction fun e=>h2 (.inl e),fun e=>⟨?_,by omega,by omega⟩,fun e=>⟨?_,by omega,by omega,by omega⟩,fun e=>⟨?_,?_⟩⟩
 ·cases e2:isB s c.col 2 with
  | true=>rfl
  | false=>exact absurd (.inl ⟨e,e2⟩) h3
 ·cases e2:isB s c.col 3 with
  | true=>rfl
  | false=>exact absurd (.inr (.inl ⟨e,e2⟩)) h3
 ·cases e2:isB s c.col 3 with
  | true=>rfl
  | false=>exact absurd (.inr (.inr ⟨e,.inl e2⟩)) h3
 ·cases e2:(qg s c.col.toNat).opt with
  | true=>rfl
  | false=>exact absurd (.inr (.inr ⟨e,.inr e2⟩)) h3
def isAt (c:Cnd):Bool:=(c.op == 2) || (c.op == 3) || (c.op == 4)
def tf (b:Bool):Int:=if b then 1 else -1
def zH (s:Sch) (c:Cnd) (v:Int):Int:=
 if c.op = 2 then tf (Yn (qG s c.col.toNat) v c.code)
 else if c.op = 3 then (if v = qY then 0 else tf (decide (c.lo≤v) && decide (v≤c.hi)))
 else if c.op = 4 then tf (v == qY) else -1
def qM3 (op:Int) (ks:List Int):Int:=if op = 7 then - ks.getD 0 0 else if op = 5 then min (ks.getD 0 0) (ks.getD 1 0) else if op = 6 then max (ks.getD 0 0) (ks.getD 1 0) else 1
mutual
def evC (s:Sch) (row:List Int):Cnd→Int
 | .mk op col code lo hi ks=>if isAt (.mk op col code lo hi ks) = true then zH s (.mk op col code lo hi ks) (row.getD col.toNat 0) else qM3 op (evCs s row ks)
def evCs (s:Sch) (row:List Int):List Cnd→List Int
 | []=>[]
 | k :: r=>evC s row k :: evCs s row r
end
theorem zz4 (s:Sch) (row:List Int):∀ l,evCs s row l = l.map (evC s row)
 | []=>by simp [evCs]
 | k :: r=>by simp [evCs,zz4 s row r]
theorem zV0 (s:Sch) (row:List Int) (c:Cnd):evC s row c = if isAt c = true then zH s c (row.getD c.col.toNat 0) else qM3 c.op (c.kids.map (evC s row)):=by
 cases c
 rw [evC,zz4];rfl
def zF1 (s:Sch) (c:Cnd) (row:List Int):Int:=if chkC s c≠0∨rowE s row≠0 then 0 else evC s row c
mutual
def atsC:Cnd→List Cnd
 | .mk op col code lo hi ks=>if isAt (.mk op col code lo hi ks) = true then [.mk op col code lo hi ks] else Zc ks
def Zc:List Cnd→List Cnd
 | []=>[]
 | k :: r=>atsC k ++ Zc r
end
theorem Yo (c:Cnd):atsC c = if isAt c = true then [c] else Zc c.kids:=by cases c;rw [atsC];rfl
theorem Kh:∀ (l:List Cnd) (k:Cnd),Zc (l ++ [k]) = Zc l ++ atsC k
 | [],k=>by simp [Zc]
 | x :: r,k=>by simp [Zc,Kh r k]
theorem qQ4 {s:Sch}:∀ c,nodE s c = 0→∀ a∈atsC c,NdOk s a∧isAt a = true:=by
 refine Cnd.ind' fun c ih h a ha=>?_
 obtain ⟨h1,h2⟩:=zo8 h
 rw [Yo] at ha
 split at ha
 ·rename_i h3
  rw [List.mem_singleton] at ha
  rw [ha]
  exact ⟨zz3 h1,h3⟩
 ·have key:∀ l:List Cnd,(∀ k∈l,k∈c.kids)→a∈Zc l→NdOk s a∧isAt a = true:=by
   intro l
   induction l with
   | nil=>intro _ h;simp [Zc] at h
   | cons k r ihl=>
     intro hk h
     rw [Zc,List.mem_append] at h
     rcases h with h | h
     ·exact ih k (hk k (by simp)) (h2 k (hk k (by simp))) a h
     ·exact ihl (fun x hx=>hk x (List.mem_cons_of_mem _ hx)) h
  exact key c.kids (fun k hk=>hk) ha
def qk5 (n:Nat) (p:Nat→Nat→Bool):Bool:=(List.range n).all fun i=>(List.range i).all fun k=>p i k
theorem zz5 {p:Nat→Bool} {n:Nat}:(List.range (n + 1)).all p = ((List.range n).all p && p n):=by rw [List.range_succ,List.all_append];simp
theorem jl4 {p:Nat→Bool} {n i:Nat} (h:i < n) (hp:p i = false):(List.range n).all p = false:=List.all_eq_false.2 ⟨i,List.mem_range.2 h,by rw [hp];simp⟩
theorem qQ5 {p:Nat→Nat→Bool} {n:Nat}:qk5 (n + 1) p = (qk5 n p && (List.range n).all (p n)):=zz5
theorem zz6 {p:Nat→Nat→Bool} {n i k:Nat} (h:i < n) (hk:k < i) (hp:p i k = false):qk5 n p = false:=jl4 h (jl4 hk hp)
def decP (s:Sch) (c:Cnd) (lev:Nat) (i k:Nat):Bool:=
 !((qr s c.col lev ((qD s c.col.toNat).getD i 0) == qr s c.col lev ((qD s c.col.toNat).getD k 0)) && !(zH s c ((qD s c.col.toNat).getD i 0) == zH s c ((qD s c.col.toNat).getD k 0)))
def decB (s:Sch) (c:Cnd) (lev:Nat):Bool:=
 if c.op = 2 then qk5 (qD s c.col.toNat).length (decP s c lev)
 else if c.op = 4 then decide (0 < lev)
 else
  let x:=qg s c.col.toNat
  let first:=decide (x.low < c.lo) && decide (c.lo≤x.high)
  let behind:=decide (x.low≤c.hi) && decide (c.hi < x.high)
  if lev = 0 then !x.opt && !first && !behind
  else (!first || (c.lo.tmod (qE x lev) == 0)) && (!behind || ((c.hi + 1).tmod (qE x lev) == 0))
def Wi (p:Nat→Bool):Nat→Nat→Nat
 | 0,n=>n
 | f + 1,n=>if p n = true then n else Wi p f (n + 1)
theorem qe1 {p:Nat→Bool} {N:Nat} (h:p N = true):∀ (f n:Nat),n≤N→N - n≤f→p (Wi p f n) = true∧Wi p f n≤N∧n≤Wi p f n∧∀ m,n≤m→m < Wi p f n→p m = false
 | 0,n,h1,h2=>by
   have:n = N:=by omega
   subst this
   exact ⟨h,Nat.le_refl _,Nat.le_refl _,fun m h3 h4=>by rw [Wi] at h4;omega⟩
 | f + 1,n,h1,h2=>by
   rw [Wi]
   split
   ·rename_i hp
    exact ⟨hp,h1,Nat.le_refl _,fun m h3 h4=>by omega⟩
   ·rename_i hp
    have hn:n≠N:=fun e=>hp (e ▸ h)
    obtain ⟨a,b,c,d⟩:=qe1 h f (n + 1) (by omega) (by omega)
    refine ⟨a,b,by omega,fun m h3 h4=>?_⟩
    by_cases e:m = n
    ·rw [e];simpa using hp
    ·exact d m (by omega) h4
def decN (s:Sch) (c:Cnd):Nat:=Wi (decB s c) 64 0
def WA (col lev:Int):List Pk×Bool→Pk→List Pk×Bool:=fun x p=>
 let y:=if p.col > col∧x.2 = false then (x.1 ++ [⟨col,lev⟩],true) else x
 if p.col = col then (y.1 ++ [⟨p.col,max p.lev lev⟩],true) else (y.1 ++ [p],y.2)
def KX (l:List Pk) (col lev:Int):List Pk:=
 let x:=l.foldl (WA col lev) ([],decide (lev≤0))
 if x.2 then x.1 else x.1 ++ [⟨col,lev⟩]
def zO (s:Sch) (c:Cnd):List Pk:=if chkC s c≠0 then [] else (atsC c).foldl (fun l a=>KX l a.col (decN s a)) []
def covB (a b:List Pk):Bool:=a.all fun x=>b.any fun y=>(y.col == x.col) && decide (y.lev≥x.lev)
mutual
def qe2:Cnd→Cnd→Bool
 | .mk a1 a2 a3 a4 a5 ks,.mk b1 b2 b3 b4 b5 ls=>(a1 == b1) && (a2 == b2) && (a3 == b3) && (a4 == b4) && (a5 == b5) && zi2 ks ls
def zi2:List Cnd→List Cnd→Bool
 | [],[]=>true
 | k :: r,l :: t=>qe2 k l && zi2 r t
 | [],_ :: _=>false
 | _ :: _,[]=>false
end
theorem jd5 (a b:Cnd):qe2 a b = ((a.op == b.op) && (a.col == b.col) && (a.code == b.code) && (a.lo == b.lo) && (a.hi == b.hi) && zi2 a.kids b.kids):=by cases a;cases b;rw [qe2];rfl
theorem qt3:∀ c,∀ m,1≤m→1≤cntC c m∧cntC c m≤m:=by
 refine Cnd.ind' fun c ih m hm=>?_
 rw [JN]
 have key:∀ l:List Cnd,(∀ k∈l,k∈c.kids)→∀ n,1≤n→n≤m→1≤kz l m n∧kz l m n≤m:=by
  intro l
  induction l with
  | nil=>intro _ n h1 h2;rw [kz];exact ⟨h1,h2⟩
  | cons k r ihl=>
    intro hk n h1 h2
    rw [kz]
    split
    ·have:=ih k (hk k (by simp)) (m - n) (by omega)
     exact ihl (fun x hx=>hk x (List.mem_cons_of_mem _ hx)) _ (by omega) (by omega)
    ·exact ⟨h1,h2⟩
 exact key c.kids (fun k hk=>hk) 1 (by omega) hm
theorem qW1:∀ (l:List Cnd) (m n:Int),n≤m→n≤kz l m n
 | [],m,n,_=>by rw [kz];omega
 | k :: r,m,n,h=>by
   rw [kz]
   split
   ·have:=qt3 k (m - n) (by omega)
    have:=qW1 r m (n + cntC k (m - n)) (by omega)
    omega
   ·omega
theorem zV1:∀ c,∀ m,1≤m→cntC c m < m→(depC c:Int)≤cntC c m:=by
 refine Cnd.ind' fun c ih m hm h=>?_
 rw [JN] at h ⊢
 rw [qp9]
 have key:∀ l:List Cnd,(∀ k∈l,k∈c.kids)→∀ n,1≤n→n≤m→kz l m n < m→n + jO l≤kz l m n:=by
  intro l
  induction l with
  | nil=>intro _ n h1 h2 _;rw [kz,jO];omega
  | cons k r ihl=>
    intro hk n h1 h2 h3
    rw [kz] at h3 ⊢
    rw [jO]
    split at h3
    ·rename_i h4
     rw [if_pos h4]
     have c1:=qt3 k (m - n) (by omega)
     have c2:=qW1 r m (n + cntC k (m - n)) (by omega)
     have c3:=ih k (hk k (by simp)) (m - n) (by omega) (by omega)
     have c4:=ihl (fun x hx=>hk x (List.mem_cons_of_mem _ hx)) (n + cntC k (m - n)) (by omega) (by omega) h3
     omega
    ·omega
 have:=key c.kids (fun k hk=>hk) 1 (by omega) (by omega) h
 omega
end Go.Proofs
namespace Go.Proofs
open Go Go.TL
def jz (f:Nat→Int):Nat→Int
 | 0=>0
 | n + 1=>if jz f n≠0 then jz f n else f n
theorem zi3 {f:Nat→Int} {i:Nat} (h:jz f i≠0):∀ n,i≤n→jz f n = jz f i:=by
 intro n hn
 induction n with
 | zero=>have:i = 0:=by omega
         rw [this]
 | succ n ih=>
   by_cases e:i = n + 1
   ·rw [e]
   ·have:=ih (by omega)
    rw [jz,this,if_pos h]
theorem qq0 {f:Nat→Int}:∀ {n:Nat},jz f n = 0→∀ i,i < n→f i = 0
 | 0,_,i,h=>by omega
 | n + 1,h,i,hi=>by
   rw [jz] at h
   split at h
   ·rename_i h2;exact absurd h h2
   ·rename_i h2
    by_cases e:i = n
    ·rw [e];exact h
    ·exact qq0 (Classical.byContradiction h2) i (by omega)
theorem qk6 {f:Nat→Int}:∀ {n:Nat},(∀ i,i < n→f i = 0)→jz f n = 0
 | 0,_=>rfl
 | n + 1,h=>by
   rw [jz,qk6 fun i hi=>h i (by omega),if_neg (by simp)]
   exact h n (by omega)
theorem yW {f:Nat→Int} {n:Nat} (h:jz f n = 0):jz f (n + 1) = f n:=by rw [jz,if_neg (by rw [h];simp)]
theorem YH {f:Nat→Int} {i n:Nat} (h:jz f i = 0) (hi:i < n) (hf:f i≠0):jz f n = f i:=by
 rw [zi3 (i:=i + 1) (by rw [yW h];exact hf) n (by omega),yW h]
def wJ (s:Sch) (p:Pk):Int:=if schE s≠0 then schE s else if p.col < 1∨p.col≥s.cols.length then 7 else if inB p.lev 0 (finI s p.col) = false then 8 else 0
abbrev pkAt (l:List Pk) (i:Nat):Pk:=l.getD i default
def qk7 (s:Sch) (l:List Pk) (i:Nat):Int:=if wJ s (pkAt l i)≠0 then wJ s (pkAt l i) else if 0 < i∧(pkAt l i).col≤(pkAt l (i - 1)).col then 10 else 0
def Qq (s:Sch) (l:List Pk):Int:=if schE s≠0 then schE s else jz (qk7 s l) l.length
def dimE (s:Sch) (l:List Pk) (i:Nat):Int:=if wJ s (pkAt l i)≠0 then wJ s (pkAt l i) else if isB s (pkAt l i).col 2 = false then 7 else if ((l.take i).any fun x=>x.col == (pkAt l i).col) = true then 10 else 0
def JO (s:Sch) (l:List Pk):Int:=if l.length < 1∨l.length > 3 then 1 else jz (dimE s l) l.length
def zi4 (s:Sch) (m:Int) (l:List Int) (i:Nat):Int:=if isB s (l.getD i 0) 3 = false then 7 else if l.getD i 0 = m∨(l.take i).contains (l.getD i 0) = true then 10 else 0
def yu (s:Sch) (m:Int) (l:List Int):Int:=if l.length < 1∨l.length > 3 then 1 else jz (zi4 s m l) l.length
def kK (s:Sch) (q:Qst):Int:=
 if q.kind = 1 then (if JO s q.dims≠0 then JO s q.dims else if q.meas≠-1∧isB s q.meas 3 = false then 7 else 0)
 else if q.kind = 2 then (if isB s q.meas 3 = false then 7 else yu s q.meas q.terms)
 else if isB s q.meas 3 = false then 7 else if (qg s q.meas.toNat).low < 0 then 2 else chkC s q.event
def qstE (s:Sch) (q:Qst):Int:=
 if schE s≠0 then schE s else if ky q.name = false then 3 else if q.kind < 1∨3 < q.kind then 4
 else if chkC s q.filt≠0 then chkC s q.filt else if kK s q≠0 then kK s q
 else if (q.kind≠1∧0 < q.dims.length)∨(q.kind≠2∧0 < q.terms.length)∨(q.kind≠3∧qe2 q.event cnd0 = false) then 11 else 0
abbrev qAt (l:List Qst) (i:Nat):Qst:=l.getD i default
def qsE (s:Sch) (l:List Qst) (i:Nat):Int:=if qstE s (qAt l i)≠0 then qstE s (qAt l i) else if ((l.take i).any fun x=>eqB x.name (qAt l i).name) = true then 10 else 0
def smpE (x:Smp):Int:=if x.of < 1∨x.of > 1000∨x.part < 1∨x.part > x.of∨x.seed < 0∨x.seed > 1099511627776 then 2 else 0
def dclE (s:Sch) (d:Dcl):Int:=
 if schE s≠0 then schE s else if ky d.proj = false∨ky d.src = false then 3 else if chkC s d.coh≠0 then chkC s d.coh
 else if smpE d.smp≠0 then 2 else if d.qs.length < 1∨d.qs.length > 8 then 1 else jz (qsE s d.qs) d.qs.length
theorem zV2 {s:Sch} {l:List Pk} (h:Qq s l = 0):schE s = 0∧(∀ p∈l,wJ s p = 0)∧l.Pairwise fun a b=>a.col < b.col:=by
 unfold Qq at h
 split at h
 ·rename_i h1;exact absurd h h1
 rename_i h1
 have key:∀ i,i < l.length→wJ s (pkAt l i) = 0∧¬ (0 < i∧(pkAt l i).col≤(pkAt l (i - 1)).col):=fun i hi=>by
  have:=qq0 h i hi
  unfold qk7 at this
  split at this
  ·rename_i h2;exact absurd this h2
  rename_i h2
  split at this
  ·cases this
  ·rename_i h3;exact ⟨Classical.byContradiction h2,h3⟩
 refine ⟨Classical.byContradiction h1,fun p hp=>?_,?_⟩
 ·obtain ⟨i,hi,rfl⟩:=List.getElem_of_mem hp
  have:=(key i hi).1
  rw [pkAt,qh hi] at this
  exact this
 ·rw [List.pairwise_iff_getElem]
  have k2:∀ (d i:Nat) (hj:i + d + 1 < l.length),(l[i]'(by omega)).col < l[i + d + 1].col:=by
   intro d
   induction d with
   | zero=>
     intro i hj
     have:=(key (i + 1) (by omega)).2
     rw [pkAt,pkAt,qh (by omega),qh (by omega)] at this
     simp at this
     simpa using this
   | succ d ih=>
     intro i hj
     have h1:=ih i (by omega)
     have h2:=(key (i + d + 1 + 1) (by omega)).2
     rw [pkAt,pkAt,qh (by omega),qh (by omega)] at h2
     simp only [Nat.add_sub_cancel] at h2
     have e:i + (d + 1) + 1 = i + d + 1 + 1:=by omega
     simp only [e]
     omega
  intro i j hi hj hij
  have:=k2 (j - i - 1) i (by omega)
  have e:i + (j - i - 1) + 1 = j:=by omega
  simp only [e] at this
  exact this
theorem qk8 {s:Sch} {p:Pk} (h:wJ s p = 0):schE s = 0∧1≤p.col∧p.col < s.cols.length∧0≤p.lev∧p.lev≤finI s p.col:=by
 unfold wJ at h
 split at h
 ·rename_i h1;exact absurd h h1
 rename_i h1
 split at h
 ·cases h
 rename_i h2
 split at h
 ·cases h
 rename_i h3
 rw [Bool.not_eq_false,inB,Bool.and_eq_true,decide_eq_true_eq,decide_eq_true_eq] at h3
 exact ⟨Classical.byContradiction h1,by omega,by omega,h3.1,h3.2⟩
end Go.Proofs
namespace Go.Proofs
open Go Go.TL
def divM (high w wo:Int):Nat→Int→Bool
 | 0,_=>true
 | k + 1,f=>if f > high then true else if f.tmod wo≠0 then false else divM high w wo k (f + w)
def divP (s:Sch) (col:Nat) (L:List Int) (other lev:Nat) (i k:Nat):Bool:=
 !(!(qr s col lev (L.getD i 0) == qr s col lev (L.getD k 0)) && (qr s col other (L.getD i 0) == qr s col other (L.getD k 0)))
def divB (s:Sch) (col other lev:Nat):Bool:=
 if lev = 0∨lev≤other then true
 else if (qg s col).kind = 2 then qk5 (qD s col).length (divP s col (qD s col) other lev)
 else
  let x:=qg s col
  let w:=qE x lev
  let first:=(qA x.low w + 1) * w
  if other = 0 then !x.opt && decide (first > x.high)
  else divM x.high w (qE x other) 2 first
def yv (s:Sch) (col lev:Int):Int:=if inB lev 0 (finI s col) = false then -1 else Wi (fun n=>divB s col.toNat n lev.toNat) 64 0
def jp9 (q:Qst) (k:Int):Bool:=(q.meas == k) || q.terms.contains k
def Yp (l m:List Pk):List Pk:=m.foldl (fun l p=>KX l p.col p.lev) l
def qt4 (s:Sch) (q:Qst):List Pk→Nat→List Pk:=fun l k=>if jp9 q (k + 1) = true then KX l (k + 1) (yv s (k + 1) (finI s (k + 1))) else l
def jq0 (s:Sch) (q:Qst) (l:List Pk):List Pk:=(List.range (s.cols.length - 1)).foldl (qt4 s q) l
def qe3 (s:Sch) (q:Qst):List Pk:=if qstE s q≠0 then [] else
 jq0 s q (q.dims.foldl (fun l p=>KX l p.col (yv s p.col p.lev)) (if q.kind = 3 then Yp (zO s q.filt) (zO s q.event) else zO s q.filt))
def sufB (s:Sch) (q:Qst) (l:List Pk):Bool:=(qstE s q == 0) && (Qq s l == 0) && covB (qe3 s q) l
def jw4 (s:Sch) (d:Dcl) (l:List Pk):Int:=if dclE s d≠0 then dclE s d else if Qq s l≠0 then Qq s l else jz (fun i=>if sufB s (qAt d.qs i) l = true then 0 else 23) d.qs.length
end Go.Proofs
namespace Go.Proofs
open Go Go.TL
theorem kV {s:Sch} {c:Int} (h:0≤finI s c):schE s = 0∧1≤c∧c < s.cols.length∧finI s c = (if (qg s c.toNat).kind = 2 then zk (qG s c.toNat) - 1 else (qg s c.toNat).widths.length):=by
 unfold finI at h ⊢
 split at h
 ·omega
 ·rename_i h1
  rw [if_neg h1]
  exact ⟨by omega,by omega,by omega,rfl⟩
theorem jA {n lo hi:Int}:inB n lo hi = true↔lo≤n∧n≤hi:=by simp [inB]
theorem qk9 {n lo hi:Int}:inB n lo hi = false↔n < lo∨hi < n:=by
 rw [← Bool.not_eq_true,jA];omega
theorem SchOk.wid {s:Sch} (h:SchOk s) {i:Nat} (hi:i < s.cols.length) (h0:0 < i) (hk:(qg s i).kind≠2) {lev:Int} (hl:1≤lev∧lev≤(qg s i).widths.length) :
 1≤qE (qg s i) lev∧qE (qg s i) lev≤1000000∧(qg s i).kind = 3∧(qg s i).widths.length≤4∧-1000000≤(qg s i).low∧(qg s i).high≤1000000∧(qg s i).low≤(qg s i).high∧qE (qg s i) (qg s i).widths.length = 1:=by
 have hk2:=qU (h.cs i hi)
 have hk3:(qg s i).kind = 3:=by have:=hk2.2.2.1 h0;omega
 have hm:=hk2.2.2.2.2 hk3
 generalize qg s i = c at hl hm hk3 ⊢
 unfold measE at hm
 split at hm
 ·cases hm
 rename_i h1
 split at hm
 ·cases hm
 rename_i h2
 split at hm
 ·cases hm
 rename_i h3
 rw [Bool.not_eq_false] at h3
 have hw:∀ j,j < c.widths.length→wdOk c.widths j = true:=fun j hj=>List.all_eq_true.1 h3 j (List.mem_range.2 hj)
 have e1:inB c.low (-1000000) 1000000 = true:=by grind
 have e2:inB c.high (-1000000) 1000000 = true:=by grind
 rw [jA] at e1 e2
 have hn:((c.widths.length:Int) - lev).toNat < c.widths.length:=by omega
 have hp:=zi0 (ws:=c.widths) hw _ hn
 have h0:=hw 0 (by omega)
 rw [wdOk,if_pos rfl,beq_iff_eq] at h0
 have hmax:c.widths.getD ((c.widths.length:Int) - lev).toNat 0≤1000000:=by
  have:=hw _ hn
  unfold wdOk at this
  split at this
  ·rename_i e;rw [e,h0];omega
  ·simp only [Bool.and_eq_true,decide_eq_true_eq] at this;omega
 refine ⟨hp,hmax,hk3,by omega,by omega,by omega,by omega,?_⟩
 rw [qE,show ((c.widths.length:Int) - c.widths.length).toNat = 0 by omega,h0]
theorem ZN {v w:Int} (hw:0 < w):v - w < qA v w * w∧qA v w * w≤v:=by
 unfold qA
 rw [Int.fdiv_eq_ediv_of_nonneg _ (by omega),Int.mul_comm]
 have h1:=Int.mul_ediv_add_emod v w
 have h2:=Int.emod_nonneg v (b:=w) (by omega)
 have h3:=Int.emod_lt_of_pos v hw
 omega
theorem wg (s:Sch) (hs:Qp s) (c lev v:Int):Spc Tryz.prog jg [schT s,vI c,vI lev,vI v] [] (vI (qr s c lev v)) []:=by
 refine qd qB1 mixm (by simp) fun e _ hst=>qj ?_
 unfold Zs
 refine sW ?_
 refine C1.im (Qg s hs c) (by rfl) (by rfl) ?_
 refine sW ?_
 refine C1.im (jb lev 0 (finI s c)) (by rfl) (by rfl) ?_
 simp only [tZ,↓un_u,simprocAttr,Bool.not_eq_true',Bool.not_eq_false']
 refine ⟨fun h=>?_,fun h=>?_⟩
 ·rw [qr,if_pos h]
  exact .oA [] []
 rw [jA] at h
 obtain ⟨hE,c1,c2,hfin⟩:=kV (s:=s) (c:=c) (by omega)
 have hok:=qJ hE
 obtain ⟨i,rfl⟩:=Int.eq_ofNat_of_zero_le (show 0≤c by omega)
 rw [Int.toNat_natCast] at hfin
 have hi:i < s.cols.length:=by omega
 have hat:qg s i = s.cols[i]:=by rw [qg,qh hi]
 have hk:=qU (hok.cs i hi)
 have hcd:=fun e=>hok.cdl hi e
 have hwd:=fun e l=>hok.wid hi (by omega) e (lev:=l)
 have hcl:qG s i = s.lists.getD s.cols[i].list.toNat default:=by rw [qG,hat]
 have hE2:qr s i lev v = if s.cols[i].kind = 2 then (if zd s i v = false then -1 else upC (qG s i) v lev)
  else if v≠qY∧inB v (-1000000) 1000000 = false then -1
  else if lev = 0 then 0 else if v = qY then v else qA v (qE s.cols[i] lev) * qE s.cols[i] lev:=by
  rw [qr,if_neg (by rw [Bool.not_eq_false,jA];exact h),Int.toNat_natCast,hat]
 rw [hE2]
 rw [hat] at hk hcd hwd hfin
 rw [hcl] at hcd ⊢
 simp only [tZ,↓un_u,simprocAttr,Int.toNat_natCast,qe hi]
 have hho:=qk4 s hok i hi v
 generalize s.cols[i] = x at hk hcd hwd hfin ⊢
 simp only [tZ,↓un_u,simprocAttr,beq_iff_eq,beq_eq_false_iff_ne]
 refine ⟨by omega,fun h2=>?_,fun h2=>?_⟩
 ·rw [if_pos h2]
  obtain ⟨d1,d2⟩:=hcd h2
  obtain ⟨d3,d4⟩:=hk.2.2.2.1 h2
  have hgl:s.lists.getD x.list.toNat default = s.lists[x.list.toNat]:=qh d1
  rw [hgl] at d2 ⊢
  obtain ⟨_,d5,d6⟩:=zc d2
  refine C1.im hho (by rfl) (by rfl) ?_
  simp only [tZ,↓un_u,simprocAttr,Bool.not_eq_true',Bool.not_eq_false']
  refine ⟨fun h3=>?_,fun h3=>?_⟩
  ·rw [if_pos h3]
   exact .oA [] []
  rw [if_neg (by rw [h3];simp)]
  simp only [tZ,↓un_u,simprocAttr,qe d1]
  generalize s.lists[x.list.toNat] = l at d2 d5 d6 ⊢
  refine ⟨by omega,?_⟩
  refine C1.im (qQ3 l v lev (by omega)) (by rfl) (by rfl) ?_
  refine sW ?_
  exact .oA [] []
 rw [if_neg h2]
 rw [if_neg h2] at hfin
 refine C2.im (fun _=>jb v (-1000000) 1000000) (fun _=>rfl) (by rfl) ?_
 simp only [tZ,↓un_u,simprocAttr,tD,bne_iff_ne,bne_eq_false_iff_eq,Bool.not_eq_true',Bool.not_eq_false',beq_iff_eq,beq_eq_false_iff_ne]
 rw [show (-1099511627776:Int) = qY from rfl]
 refine ⟨fun h3=>?_,fun h3=>?_⟩
 ·rw [if_pos h3]
  exact .oA [] []
 rw [if_neg (by grind)]
 refine ⟨fun h4=>?_,fun h4=>?_⟩
 ·rw [if_pos h4]
  exact .oA [] []
 rw [if_neg h4]
 refine ⟨fun h5=>?_,fun h5=>?_⟩
 ·rw [if_pos h5]
  exact .oA [] []
 rw [if_neg h5]
 have hv:inB v (-1000000) 1000000 = true:=by grind
 rw [jA] at hv
 obtain ⟨w1,w2,w3,w4,_⟩:=hwd h2 lev (by omega)
 have hfm:=ZN (v:=v) (w:=qE x lev) (by omega)
 have hw:IntKind.i64.wrap (qA v (qE x lev) * qE x lev) = qA v (qE x lev) * qE x lev:=IntWalk.i64_in _ (by omega)
 refine C1.im (KW x lev (by omega) (by omega)) (by rfl) (by rfl) ?_
 refine sW ?_
 refine C1.im (qV9 v (qE x lev) (by omega) (by omega)) (by rfl) (by rfl) ?_
 simp only [tZ,↓un_u,simprocAttr,hw]
 exact .oA [] []
theorem Qh (s:Sch) (hok:SchOk s) (i:Nat) (hi:i < s.cols.length) (h2:(qg s i).kind = 2):Spc Tryz.prog jP [schT s,vI i] [] (vIs (qD s i)) []:=by
 have hat:qg s i = s.cols[i]:=by rw [qg,qh hi]
 obtain ⟨d1,d2⟩:=hok.cdl hi h2
 obtain ⟨d3,d4⟩:=(qU (hok.cs i hi)).2.2.2.1 h2
 have hcl:qG s i = s.lists.getD s.cols[i].list.toNat default:=by rw [qG,hat]
 rw [hcl] at d2
 rw [hat] at d1 d3 d4
 have hgl:s.lists.getD s.cols[i].list.toNat default = s.lists[s.cols[i].list.toNat]:=qh d1
 rw [hgl] at d2
 obtain ⟨_,d5,d6⟩:=zc d2
 rw [qD,hcl,hgl]
 have hlv:=qe0 (l:=s.lists[s.cols[i].list.toNat])
 have hw2:IntKind.i64.wrap (zk s.lists[s.cols[i].list.toNat] - 1) = zk s.lists[s.cols[i].list.toNat] - 1:=IntWalk.i64_in _ (by omega)
 refine qd qB9 mixm (by simp) fun e _ hst=>qj ?_
 unfold Zw
 simp only [tZ,↓un_u,simprocAttr,Int.toNat_natCast,qe hi,qe d1]
 refine ⟨by omega,by omega,by kernel_rfl,?_⟩
 refine C1.im (JM _ (by omega)) (by rfl) (by rfl) ?_
 simp only [tZ,↓un_u,simprocAttr,hw2]
 refine C1.im (zF0 _ _ (by omega)) (by rfl) (by rfl) ?_
 refine sW ?_
 refine ⟨by kernel_rfl,?_⟩
 exact .oA [] []
theorem zi5 (s:Sch) (hs:Qp s) (p:Pk):Spc Tryz.prog WS [schT s,pkT p] [] (vI (wJ s p)) []:=by
 refine qd qU8 mixm (by simp) fun e _ hst=>qj ?_
 unfold KP
 refine sW ?_
 refine C1.im (yr s hs) (by rfl) (by rfl) ?_
 simp only [tZ,↓un_u,simprocAttr,tD,bne_iff_ne,bne_eq_false_iff_eq]
 refine ⟨fun h=>?_,fun h=>⟨fun h2=>?_,fun h2=>?_⟩⟩
 ·rw [wJ,if_pos h]
  exact .oA [] []
 ·rw [wJ,if_neg (by rw [h];simp),if_pos (by omega)]
  exact .oA [] []
 rw [wJ,if_neg (by rw [h];simp),if_neg (by omega)]
 refine C1.im (Qg s hs p.col) (by rfl) (by rfl) ?_
 refine sW ?_
 refine C1.im (jb p.lev 0 (finI s p.col)) (by rfl) (by rfl) ?_
 simp only [tZ,↓un_u,simprocAttr,Bool.not_eq_true',Bool.not_eq_false']
 refine ⟨by kernel_rfl,fun h3=>?_,fun h3=>?_⟩
 ·rw [if_pos h3]
  exact .oA [] []
 ·rw [if_neg (by rw [h3];simp)]
  exact .oA [] []
theorem qW2 (s:Sch) (hs:Qp s) (l:List Pk) (hl:l.length < 4611686018427387904):Spc Tryz.prog Ky [schT s,vPs l] [] (vI (Qq s l)) []:=by
 refine qd qI0 mixm (by simp) fun e _ hst=>qj ?_
 unfold Jp
 refine sW ?_
 refine C1.im (yr s hs) (by rfl) (by rfl) ?_
 simp only [tZ,↓un_u,simprocAttr,bne_iff_ne,bne_eq_false_iff_eq]
 refine ⟨fun h=>?_,fun hE=>?_⟩
 ·rw [Qq,if_pos h]
  exact .oA [] []
 rw [Qq,if_neg (by rw [hE];simp)]
 refine qw mixm (α:=Nat) [6] (fun i=>i≤l.length∧(jz (qk7 s l) i = 0)) (fun i=>[(6,vI i)]) (fun i=>[(4096,.arr 2 [schT s] false)]) (fun i=>l.length - i) 0 ⟨by omega,?_⟩ ?_ fun i hi=>?_
 ·rfl
 ·exact .oA [(4096,some 4096)] []
 simp only [tZ,↓un_u,simprocAttr,decide_eq_true_eq,decide_eq_false_iff_not]
 refine ⟨fun h=>?_,fun h=>?_⟩
 ·have hi2:i < l.length:=by omega
  have hpi:pkAt l i = l[i]:=by rw [pkAt,qh hi2]
  have hstep:=YH hi.2 hi2
  have hnext:=yW hi.2
  have hA:qk7 s l i = if wJ s l[i]≠0 then wJ s l[i] else if 0 < i∧l[i].col≤(pkAt l (i - 1)).col then 10 else 0:=by rw [qk7,hpi]
  have hi2:i < l.length:=by omega
  have hwi:=qk (i:=i) (by omega)
  simp only [tZ,↓un_u,simprocAttr,Int.toNat_natCast,qe hi2,hwi]
  refine ⟨by omega,?_⟩
  refine C1.im (zi5 s hs l[i]) (by rfl) (by rfl) ?_
  simp only [tZ,↓un_u,simprocAttr,bne_iff_ne,bne_eq_false_iff_eq]
  refine ⟨by kernel_rfl,fun h3=>?_,fun h3=>?_⟩
  ·rw [if_pos h3] at hA
   rw [hstep (by rw [hA];exact h3),hA]
   exact .oA [] []
  rw [if_neg (by rw [h3];simp)] at hA
  rcases Nat.eq_zero_or_pos i with h0 | h0
  ·subst h0
   rw [if_neg (by omega)] at hA
   have hz:((0:Nat):Int) = 0:=rfl
   have hz2:(IntKind.i64.wrap (-1)).toNat = 0:=by decide
   have hz3:=qk (i:=0) (by omega)
   rw [hz] at hz3
   simp only [tZ,↓un_u,simprocAttr,Int.toNat_natCast,hz,beq_self_eq_true,gt_iff_lt,Int.lt_irrefl,Bool.true_and,hz2,qe hi2,hz3]
   refine ⟨by kernel_rfl,1,⟨by omega,by rw [hnext,hA]⟩,by omega,?_⟩
   exact .oA [(4096,some 4096)] []
  ·obtain ⟨k,rfl⟩:∃ k,i = k + 1:=⟨i - 1,by omega⟩
   have hk3:k < l.length:=by omega
   have e2:decide (((k + 1:Nat):Int) > 0) = true:=decide_eq_true (by omega)
   have e3:=ZZ (i:=k + 1) (by omega) (by omega)
   rw [Nat.add_sub_cancel] at e3 hA
   rw [pkAt,qh hk3] at hA
   simp only [tZ,↓un_u,simprocAttr,Int.toNat_natCast,qe hi2,qe hk3,e2,e3,hwi,tD]
   refine ⟨by omega,by omega,by kernel_rfl,fun h4=>?_,fun h4=>?_⟩
   ·rw [if_pos ⟨by omega,h4⟩] at hA
    rw [hstep (by rw [hA];simp),hA]
    exact .oA [] []
   ·rw [if_neg (by omega)] at hA
    refine ⟨k + 2,⟨by omega,by rw [hnext,hA]⟩,by omega,?_⟩
    exact .oA [(4096,some 4096)] []
 ·have hi2:i = l.length:=by omega
  subst hi2
  rw [hi.2]
  exact .oA [] []
theorem qq1 (a b:List Pk) (ha:a.length < 4611686018427387904):Spc Tryz.prog yE [vPs a,vPs b] [] (vB (qE3 a b)) []:=by
 refine qd qh4 mixm (by simp) fun e _ hst=>qj ?_
 unfold yd
 simp only [tZ,↓un_u,simprocAttr,bne_iff_ne,bne_eq_false_iff_eq]
 refine ⟨fun h=>?_,fun h=>?_⟩
 ·rw [qE3,zy3 (by omega)]
  exact .oA [] []
 have hl:a.length = b.length:=by omega
 refine qw mixm (α:=Nat) [5] (fun i=>i≤a.length∧(qE3 (a.take i) (b.take i) = true)) (fun i=>[(5,vI i)]) (fun i=>[]) (fun i=>a.length - i) 0 ⟨by omega,?_⟩ ?_ fun i hi=>?_
 ·rfl
 ·exact .oA [] []
 simp only [tZ,↓un_u,simprocAttr,decide_eq_true_eq,decide_eq_false_iff_not]
 refine ⟨fun h=>?_,fun h=>?_⟩
 ·have hib:i < b.length:=by omega
  have hi2:i < a.length:=by omega
  have hwi:=qk (i:=i) (by omega)
  simp only [tZ,↓un_u,simprocAttr,Int.toNat_natCast,qe hi2,hwi,qe hib]
  rw [show (a[i].col == b[i].col && a[i].lev == b[i].lev) = eqPk a[i] b[i] from rfl]
  refine ⟨by omega,by omega,by kernel_rfl,fun h3=>?_,fun h3=>⟨i + 1,⟨by omega,?_⟩,by omega,?_⟩⟩
  ·rw [qE3,zm9 (i:=i) hl (by omega) h3]
   exact .oA [] []
  ·rw [qE3,qQ1 hi2 hib,← qE3,hi.2]
   simpa using h3
  ·exact .oA [] []
 ·have hi2:i = a.length:=by omega
  subst hi2
  have h3:=hi.2
  rw [List.take_length,List.take_of_length_le (by omega)] at h3
  rw [h3]
  exact .oA [] []
end Go.Proofs
namespace Go.Proofs
open Go Go.TL
theorem Zj {s:Sch} (h:SchOk s) {i:Nat} (hi:i < s.cols.length) (h2:(qg s i).kind = 2):(qD s i).length≤60:=by
 obtain ⟨d1,d2⟩:=h.cdl hi h2
 obtain ⟨_,d5,d6⟩:=zc d2
 unfold qD atL
 rw [if_neg (by rw [d2];simp),List.length_map]
 have:=List.length_filter_le (fun i=>(dep (qG s i).codes i:Int) == zk (qG s i) - 1) (List.range (qG s i).codes.length)
 refine Nat.le_trans (List.length_filter_le _ _) ?_
 rw [List.length_range];exact d6
theorem zz7 (s:Sch) (i lev:Nat):divB s i lev lev = true:=by unfold divB;rw [if_pos (by omega)]
theorem qe4 {s:Sch} {c:Int} (h:schE s = 0):finI s c≤59:=by
 by_cases h0:0≤finI s c
 ·obtain ⟨_,h1,h2,h3⟩:=kV h0
  rw [h3]
  split
  ·have:=qe0 (l:=qG s c.toNat);omega
  ·rename_i h4
   have hok:=qJ h
   by_cases e:(qg s c.toNat).widths.length = 0
   ·omega
   ·have:=hok.wid (i:=c.toNat) (by omega) (by omega) h4 (lev:=1) (by omega)
    omega
 ·omega
end Go.Proofs
namespace Go.Proofs
open Go Go.TL
abbrev cnT (c:Cnd):T:=.agg [vI c.op,vI c.col,vI c.code,vI c.lo,vI c.hi,vCs c.kids]
theorem jd6 (c:Cnd):(cndT c).cells.length = 6∧imL (cndT c).cells = true:=by rw [zx];exact ⟨rfl,rfl⟩
theorem qx2 {α:Type} {f:α→T} {l:List α} {i:Nat} (h:l.length≤i):(l.map f).getD i .junk = .junk:=by simp [List.getD,h]
theorem zo9 {α:Type} {l:List α} {i:Nat} (h:i < l.length):l.drop i = l[i] :: l.drop (i + 1):=List.drop_eq_getElem_cons h
theorem qW3:∀ (c:Cnd) (m:Int),1≤m→m≤1000→Spc Tryz.prog QV [cnT c,vI m] [] (vI (cntC c m)) []:=by
 refine Cnd.ind' fun c ih m hm hm2=>?_
 rw [JN]
 refine qd qK4 mixm (by simp) fun e _ hst=>qj ?_
 unfold JB
 refine sW ?_
 refine qw mixm (α:=Nat×Int) [5,6] (fun y=>y.1≤c.kids.length∧kz c.kids m 1 = kz (c.kids.drop y.1) m y.2∧y.2≤m∧y.1 + 1≤y.2) (fun y=>[(5,vI y.2),(6,vI y.1)]) (fun y=>[(4096,.arr 6 [cnT c] false)]) (fun y=>c.kids.length - y.1) (0,1) ⟨by simp,rfl,hm,by simp⟩ ?_ fun y hy=>?_
 ·exact .oA [(4096,some 4096)] []
 obtain ⟨i,n⟩:=y
 obtain ⟨y1,y2,y3,y4⟩:=hy
 dsimp only at y1 y2 y3 y4
 rw [y2]
 refine sD ?_
 refine ⟨fun h=>?_,fun h=>?_⟩
 ·have hi:i < c.kids.length:=by omega
  have hwi:=qk (i:=i) (by omega)
  have hw:IntKind.i64.wrap (m - n) = m - n:=IntWalk.i64_in _ (by omega)
  have hc:=qt3 c.kids[i] (m - n) (by omega)
  have hw2:IntKind.i64.wrap (n + cntC c.kids[i] (m - n)) = n + cntC c.kids[i] (m - n):=IntWalk.i64_in _ (by omega)
  simp only [tZ,↓un_u,simprocAttr,Int.toNat_natCast,qe hi,zx,hw]
  refine ⟨by omega,?_⟩
  refine C1.im (ih _ (List.getElem_mem hi) (m - n) (by omega) (by omega)) (by rfl) (by rfl) ?_
  simp only [tZ,↓un_u,simprocAttr,hw2,hwi]
  refine ⟨(i + 1,n + cntC c.kids[i] (m - n)),⟨by dsimp only;omega,?_,by dsimp only;omega,by dsimp only;omega⟩,by dsimp only;omega,?_⟩
  ·dsimp only
   rw [zo9 hi,kz,if_pos (by omega)]
  ·exact .oA [(4096,some 4096)] []
 ·have:kz (c.kids.drop i) m n = n:=by
   by_cases hi:i < c.kids.length
   ·rw [zo9 hi,kz,if_neg (by omega)]
   ·rw [List.drop_of_length_le (by omega),kz]
  rw [this]
  exact .oA [] []
theorem qq2:∀ (l:List Cnd) (k:Cnd),jO (l ++ [k]) = max (jO l) (depC k)
 | [],k=>by simp [jO]
 | x :: r,k=>by rw [List.cons_append,jO,qq2 r k,jO];omega
theorem qq3:∀ (l:List Cnd) (i:Nat),jO (l.take i)≤jO l
 | [],i=>by simp
 | x :: r,0=>by simp [jO]
 | x :: r,i + 1=>by rw [List.take_succ_cons,jO,jO];have:=qq3 r i;omega
theorem ql0:∀ {l:List Cnd} {m n:Int},n≤m→kz l m n < m→n + l.length≤kz l m n∧∀ k∈l,∃ m',1≤m'∧m'≤m - n∧cntC k m' < m'
 | [],m,n,_,h=>by rw [kz];simp
 | x :: r,m,n,h1,h=>by
   rw [kz] at h ⊢
   split at h
   ·rename_i h2
    rw [if_pos h2]
    have h3:=qt3 x (m - n) (by omega)
    obtain ⟨h4,h5⟩:=ql0 (l:=r) (by omega) h
    refine ⟨by rw [List.length_cons];omega,fun k hk=>?_⟩
    rcases List.mem_cons.1 hk with e | hk
    ·subst e
     exact ⟨m - n,by omega,by omega,by omega⟩
    ·obtain ⟨m',a,b,c⟩:=h5 k hk
     exact ⟨m',a,by omega,c⟩
   ·omega
theorem qW4:∀ (c:Cnd) (m:Int),1≤m→m≤1000→cntC c m < m→Spc Tryz.prog QW [cnT c] [] (vI (depC c)) []:=by
 refine Cnd.ind' fun c ih m hm hm2 hc=>?_
 have hd:=zV1 c m hm hc
 rw [JN] at hc hd
 obtain ⟨hk1,hk2⟩:=ql0 (by omega) hc
 rw [qp9] at hd ⊢
 refine qd qK6 mixm (by simp) fun e _ hst=>qj ?_
 unfold JC
 refine sW ?_
 refine qw mixm (α:=Nat) [3,4] (fun i=>i≤c.kids.length) (fun i=>[(3,vI (jO (c.kids.take i))),(4,vI i)]) (fun i=>[(4096,.arr 6 [cnT c] false)]) (fun i=>c.kids.length - i) 0 (by omega) ?_ fun i hi=>?_
 ·refine .of [(4096,some 4096)] [] rfl (by first | rfl | (rw [hst];rfl)) ?_ ?_
  all_goals (try simp only [tL,simprocAttr,List.map_append,List.map_cons,List.map_nil,List.cons_append,List.nil_append,List.take_zero,jO])
  all_goals (try (repeat' (first | exact zh | (apply zU;intro _;exact ⟨rfl,rfl⟩) | (apply qK;intro _;exact ⟨rfl,rfl⟩) | with_reducible apply qX | with_reducible refine qZ ⟨rfl,rfl⟩ ?_ | exact zn | with_reducible apply qR | with_reducible refine qQ ⟨rfl,rfl,?_⟩ ?_ | with_reducible apply And.intro | exact qS rfl | exact qS (by assumption) | (refine ⟨⟨?_,rfl,?_,rfl,?_⟩,trivial⟩ <;> first | (simp;done) | (apply qK;intro _;exact ⟨rfl,rfl⟩)) | trivial | rfl | (rw [qk (by omega)]) | omega)))
 have hdt:=qq3 c.kids i
 refine sD ?_
 refine ⟨fun h=>?_,fun h=>?_⟩
 ·have hi2:i < c.kids.length:=by omega
  have hwi:=qk (i:=i) (by omega)
  have hs:jO (c.kids.take (i + 1)) = max (jO (c.kids.take i)) (depC c.kids[i]):=by rw [qM hi2,qq2]
  obtain ⟨m',a1,a2,a3⟩:=hk2 _ (List.getElem_mem hi2)
  simp only [tZ,↓un_u,simprocAttr,Int.toNat_natCast,qe hi2,zx]
  refine ⟨by omega,?_⟩
  refine C1.im (ih _ (List.getElem_mem hi2) m' a1 (by omega) a3) (by rfl) (by rfl) ?_
  have hmx:maxI (jO (c.kids.take i):Int) (depC c.kids[i]) = (jO (c.kids.take (i + 1)):Int):=by rw [hs];unfold maxI;omega
  simp only [tZ,↓un_u,simprocAttr,hwi,hmx]
  refine ⟨i + 1,by omega,by omega,?_⟩
  exact .oA [(4096,some 4096)] []
 ·have hil:i = c.kids.length:=by omega
  subst hil
  rw [List.take_length] at hdt ⊢
  have hw:=qk (i:=jO c.kids) (by omega)
  simp only [tZ,↓un_u,simprocAttr,hw]
  exact .oA [] []
theorem qV (s:Sch) (col kind:Int):Spc Tryz.prog JZ [schT s,vI col,vI kind] [] (vB (isB s col kind)) []:=by
 by_cases h:0≤col∧col < s.cols.length
 ·obtain ⟨i,rfl⟩:=Int.eq_ofNat_of_zero_le h.1
  have hi:i < s.cols.length:=by omega
  have e1:decide ((i:Int)≥0) = true:=decide_eq_true (by omega)
  have e2:decide ((i:Int) < s.cols.length) = true:=decide_eq_true (by omega)
  have e3:isB s i kind = (s.cols[i].kind == kind):=by
   rw [isB,Int.toNat_natCast,qg,qh hi,decide_eq_true h.1,decide_eq_true h.2];rfl
  refine qd qd5 mixm (by simp) fun e _ hst=>qj ?_
  unfold ZJ
  simp only [tZ,↓un_u,simprocAttr,e1,e2,Int.toNat_natCast,qe hi]
  rw [e3]
  refine ⟨by omega,?_⟩
  exact .oA [] []
 ·have e1:(decide (col≥0) && decide (col < (s.cols.length:Int))) = false:=by
   rw [Bool.and_eq_false_iff,decide_eq_false_iff_not,decide_eq_false_iff_not];omega
  have e3:isB s col kind = false:=by
   unfold isB
   rw [show (decide (0≤col) && decide (col < (s.cols.length:Int))) = false from e1];rfl
  rcases Nat.lt_or_ge col.toNat s.cols.length with hk | hk
  ·refine qd qd5 mixm (by simp) fun e _ hst=>qj ?_
   unfold ZJ
   simp only [tZ,↓un_u,simprocAttr,e1,qe hk]
   rw [e3]
   exact .oA [] []
  ·have hj:(s.cols.map colT).getD col.toNat .junk = .junk:=qx2 hk
   refine qd qd5 mixm (by simp) fun e _ hst=>qj ?_
   unfold ZJ
   simp only [tZ,↓un_u,simprocAttr,e1,hj,List.drop_succ_cons,List.drop_nil]
   rw [e3]
   exact .oA [] []
end Go.Proofs
