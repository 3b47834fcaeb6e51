/- A part of the proof: trees of Go values, short forms, contracts. -/
import Derived.WalkKit
import Derived.Still
import Derived.MapKept
import GoSem.Builtin.Cap
import Derived.Laws.Externs
import GoSem.Extern.SlicesOverlaps
import Derived.Carry
import Derived.ProofKit
import Derived.OpenShut
import Derived.HandedShaped
import Derived.Lay
import Derived.LaidLaws
import Derived.MakeChecks
import Derived.SevenTiedAt
import Derived.Test.YtjckmmphmhafjaaGreatDoorChecked
import Derived.Test.YtjckmmphmhafjaaGreatDoorK18
set_option linter.unusedSimpArgs false
set_option linter.unusedVariables false
namespace Go.Proofs
open Go Go.TL
set_option maxHeartbeats 4000000
open So
theorem qU {r:List Int} (h:0 < r.length):(r.map vI).getD 0 .junk = vI (hd r):=by rw [qd h,hd,qj h]
theorem jg7 (row:List Int):∀ (l:List (List Int)) (x:List (List Int)×Bool),(l.foldl (putS row) x).1.length≤x.1.length + l.length + 1
 | l,x=>by
   have key:∀ (l:List (List Int)) (x:List (List Int)×Bool),(l.foldl (putS row) x).1.length + (if (l.foldl (putS row) x).2 then 0 else 1)≤x.1.length + (if x.2 then 0 else 1) + l.length:=by
    intro l
    induction l with
    | nil=>intro x;simp only [List.foldl_nil,List.length_nil,Nat.add_zero];exact Nat.le_refl _
    | cons r l ih=>
      intro x
      have h1:=ih (putS row x r)
      have h2:(putS row x r).1.length + (if (putS row x r).2 then 0 else 1)≤x.1.length + (if x.2 then 0 else 1) + 1:=by
       unfold putS
       split
       ·omega
       ·split
        ·rename_i h;rw [h.2];simp
        ·simp;omega
      rw [List.foldl_cons,List.length_cons]
      omega
   have:=key l x
   split at this <;> split at this <;> omega
theorem KN (l:List (List Int)) (row:List Int) (hl:l.length < 1000000000) (hr:∀ r∈l,0 < r.length) (h0:0 < row.length):Spc Tryz.prog yd [vRw l,vIs row] [] (vRw (putR l row)) []:=by
 have hP:putR l row = if (l.foldl (putS row) ([],false)).2 then (l.foldl (putS row) ([],false)).1 else (l.foldl (putS row) ([],false)).1 ++ [row]:=rfl
 have hS:=fun i=>jg7 row (l.take i) ([],false)
 have hg0:=qU h0
 refine qe zf8 mixm (by simp) fun e _ hst=>qh ?_
 unfold WE
 refine sW ?_
 refine qr mixm (α:=Nat×List (List Int)×Bool) [5,6,7] (fun x=>x.1≤l.length∧x.2 = (l.take x.1).foldl (putS row) ([],false)) (fun x=>[(5,.asl 1 x.2.1.length),(6,vB x.2.2),(7,vI x.1)]) (fun x=>[(1,.arr 1 (x.2.1.map vIs) false)]) (fun x=>l.length - x.1) (0,[],false) ⟨by simp,by simp⟩ ?_ fun x hx=>?_
 ·exact .oA [(1,none)] []
 obtain ⟨i,a,b⟩:=x
 obtain ⟨x1,x2⟩:=hx
 dsimp only at x1 x2
 have hSi:=hS i
 rw [← x2] at hSi
 simp only [List.length_nil,List.length_take] at hSi
 refine sD ?_
 refine ⟨fun h=>?_,fun h=>?_⟩
 ·have hi2:i < l.length:=by omega
  have hwi:=qg (i:=i) (by omega)
  have hs:(l.take (i + 1)).foldl (putS row) ([],false) = putS row (a,b) l[i]:=by rw [qD hi2,List.foldl_append,← x2];rfl
  have hrp:=hr _ (List.getElem_mem hi2)
  have hgi:=qU hrp
  have hr2:putS row (a,b) l[i] = if hd l[i] = hd row then (a,b) else if hd l[i] > hd row∧b = false then (a ++ [row] ++ [l[i]],true) else (a ++ [l[i]],b):=rfl
  rw [hr2] at hs
  simp only [tZ,↓un_u,simprocAttr,Int.toNat_natCast,qd hi2,hgi,hg0,tD,beq_iff_eq,beq_eq_false_iff_ne,Bool.not_eq_true',Bool.not_eq_false',hwi]
  refine ⟨by omega,by omega,by omega,by kernel_rfl,fun h2=>?_,fun h2=>⟨by omega,by omega,by omega,by kernel_rfl,fun h3=>?_,fun h3=>?_⟩⟩
  ·rw [if_pos h2] at hs
   refine ⟨(i + 1,a,b),⟨by dsimp only;omega,hs.symm⟩,by dsimp only;omega,?_⟩
   exact .oA [(1,some 1)] []
  ·rw [if_neg h2,if_pos h3] at hs
   refine ⟨by omega,by omega,by omega,(i + 1,a ++ [row] ++ [l[i]],true),⟨by dsimp only;omega,hs.symm⟩,by dsimp only;omega,?_⟩
   exact .oA [(1,some 1)] []
  ·rw [if_neg h2,if_neg (by grind)] at hs
   refine ⟨by omega,by omega,(i + 1,a ++ [l[i]],b),⟨by dsimp only;omega,hs.symm⟩,by dsimp only;omega,?_⟩
   exact .oA [(1,some 1)] []
 ·have hil:i = l.length:=by omega
  subst hil
  rw [List.take_length] at x2
  rw [← x2] at hP
  dsimp only at hP
  simp only [tZ,↓un_u,simprocAttr,Bool.not_eq_true',Bool.not_eq_false']
  refine ⟨fun h2=>?_,fun h2=>?_⟩
  ·rw [hP,h2,if_neg (by simp)]
   refine ⟨by omega,?_⟩
   show yb [] _ _ (.sl 1 ((a ++ [row]).map vIs)) []
   rw [List.map_append]
   exact .oA [] [1]
  ·rw [hP,if_pos h2]
   exact .oA [] [1]
theorem qo8 (l:List (List Int)) (id:Int) (hl:l.length < 1000000000) (hr:∀ r∈l,0 < r.length):Spc Tryz.prog Zw [vRw l,vI id] [] (vRw (qA2 l id)) []:=by
 refine qe qS2 mixm (by simp) fun e _ hst=>qh ?_
 unfold Kv
 refine sW ?_
 refine qr mixm (α:=Nat) [5,6] (fun i=>i≤l.length) (fun i=>[(5,.asl 1 (qA2 (l.take i) id).length),(6,vI i)]) (fun i=>[(1,.arr 1 ((qA2 (l.take i) id).map vIs) false)]) (fun i=>l.length - i) 0 (by omega) ?_ fun i hi=>?_
 ·exact .oA [(1,none)] []
 have hfl:=List.length_filter_le (fun r=>hd r != id) (l.take i)
 rw [List.length_take] at hfl
 refine sD ?_
 refine ⟨fun h=>?_,fun h=>?_⟩
 ·have hi2:i < l.length:=by omega
  have hwi:=qg (i:=i) (by omega)
  have hgi:=qU (hr _ (List.getElem_mem hi2))
  have hrp:=hr _ (List.getElem_mem hi2)
  have hs:qA2 (l.take (i + 1)) id = qA2 (l.take i) id ++ if (hd l[i] != id) = true then [l[i]] else []:=by
   unfold qA2
   rw [qD hi2,List.filter_append,List.filter_cons,List.filter_nil]
  simp only [tZ,↓un_u,simprocAttr,Int.toNat_natCast,qd hi2,hgi,hwi]
  refine ⟨by omega,by omega,fun h2=>?_,fun h2=>?_⟩
  ·rw [if_pos h2] at hs
   refine ⟨by omega,by unfold qA2;omega,i + 1,by omega,by omega,?_⟩
   rw [hs]
   exact .oA [(1,some 1)] []
  ·rw [if_neg (by rw [h2];simp),List.append_nil] at hs
   refine ⟨i + 1,by omega,by omega,?_⟩
   rw [hs]
   exact .oA [(1,some 1)] []
 ·have hil:i = l.length:=by omega
  subst hil
  rw [List.take_length]
  exact .oA [] [1]
theorem ZE (s:Src) (id:Int) (hl:s.rows.length < 4611686018427387904):Spc Tryz.prog wd [srcT s,vI id] [] (vI (qc0 s id)) []:=by
 refine qe qR6 mixm (by simp) fun e _ hst=>qh ?_
 unfold Ks
 refine sW ?_
 refine qr mixm (α:=Nat) [5] (fun i=>i≤s.rows.length∧(s.rows.take i).any (atR id) = false) (fun i=>[(5,vI i)]) (fun i=>[(4096,.arr 5 [srcT s] false)]) (fun i=>s.rows.length - i) 0 ⟨by omega,rfl⟩ ?_ fun i hi=>?_
 ·exact .oA [(4096,some 4096)] []
 refine sD ?_
 refine ⟨fun h=>?_,fun h=>?_⟩
 ·have hi2:i < s.rows.length:=by omega
  have hwi:=qg (i:=i) (by omega)
  have hno:atR id s.rows[i] = false→∃ y,(y≤s.rows.length∧(s.rows.take y).any (atR id) = false)∧s.rows.length - y < s.rows.length - i∧Le e ⟨[(1,vI id),(2,.ptr 4096 1 0 0),(5,vI ((i + 1:Nat):Int))],[(4096,.arr 5 [srcT s] false)]⟩ ⟨[(5,vI y),(1,vI id),(2,.ptr 4096 1 0 0)],[(4096,.arr 5 [srcT s] false)]⟩:=fun h3=>by
   refine ⟨i + 1,⟨by omega,zP hi2 hi.2 h3⟩,by omega,?_⟩
   exact .oA [(4096,some 4096)] []
  have hat:atR id s.rows[i] = (decide (0 < s.rows[i].length) && (hd s.rows[i] == id)):=rfl
  rcases Nat.eq_zero_or_pos s.rows[i].length with h0 | h0
  ·have e0:decide ((s.rows[i].length:Int) > 0) = false:=decide_eq_false (by omega)
   have hgj:(s.rows[i].map vI).getD 0 .junk = .junk:=yz (by omega)
   simp only [tZ,↓un_u,simprocAttr,Int.toNat_natCast,qd hi2,e0,hgj,hwi]
   exact ⟨by omega,hno (by rw [hat,decide_eq_false (by omega)];rfl)⟩
  ·have e0:decide ((s.rows[i].length:Int) > 0) = true:=decide_eq_true (by omega)
   rw [decide_eq_true h0,Bool.true_and] at hat
   simp only [tZ,↓un_u,simprocAttr,Int.toNat_natCast,qd hi2,e0,qU h0,hwi]
   refine ⟨by omega,by omega,by omega,fun h3=>?_,fun h3=>hno (by rw [hat];exact h3)⟩
   rw [qc0,if_pos (qo3 hi2 (by rw [hat];exact h3)),QD hi2 hi.2 (by rw [hat];exact h3)]
   exact .oA [] []
 ·have hil:i = s.rows.length:=by omega
  subst hil
  have h2:=hi.2
  rw [List.take_length] at h2
  rw [qc0,if_neg (by rw [h2];simp)]
  exact .oA [] []
def qI3 (s:Src):Prop:=KJ s.sch∧∀ r∈s.rows,r.length < 4611686018427387904
def rowP (s:Src) (i:Nat):Bool:=(rowE s.sch (s.rows.getD i []) == 0) && (decide (i = 0) || decide (hd (s.rows.getD (i - 1) []) < hd (s.rows.getD i [])))
def zj0 (s:Src) (i:Nat):Bool:=decide (1≤s.gone.getD i 0) && decide (s.gone.getD i 0≤1048575) && asc2 s.gone i && decide (qc0 s (s.gone.getD i 0) < 0)
theorem KO (s:Src) (hs:qI3 s):Spc Tryz.prog wy [srcT s] [] (vB (srcB s)) []:=by
 obtain ⟨hs1,hs2⟩:=hs
 have hB:srcB s = ((schE s.sch == 0) && decide (s.rows.length≤200) && decide (s.gone.length≤300) && decide (0≤s.ver) && decide (s.ver≤300) && (List.range s.rows.length).all (rowP s) && (List.range s.gone.length).all (zj0 s)):=rfl
 refine qe qD3 mixm (by simp) fun e _ hst=>qh ?_
 unfold ZW
 refine sW ?_
 refine C1.im (zS s.sch hs1) (by rfl) (by rfl) ?_
 simp only [tZ,↓un_u,simprocAttr,tD,bne_iff_ne,bne_eq_false_iff_eq]
 refine ⟨fun h=>?_,fun h=>?_⟩
 ·rw [show srcB s = false by rw [hB];grind]
  exact .oA [] []
 have hB2:srcB s = ((List.range s.rows.length).all (rowP s) && (List.range s.gone.length).all (zj0 s)):=by rw [hB];grind
 clear hB
 refine qr mixm (α:=Nat) [3,30] (fun i=>i≤s.rows.length∧(List.range i).all (rowP s) = true) (fun i=>[(3,vI i)]) (fun i=>[(4096,.arr 5 [srcT s] false)]) (fun i=>s.rows.length - i) 0 ⟨by omega,rfl⟩ ?_ fun i hi=>?_
 ·exact .oA [(4096,some 4096)] []
 obtain ⟨i1,i2⟩:=hi
 refine sD ?_
 refine ⟨fun h2=>?_,fun h2=>?_⟩
 ·have hi2:i < s.rows.length:=by omega
  have hwi:=qg (i:=i) (by omega)
  have hpi:s.rows.getD i [] = s.rows[i]:=qj hi2
  have hbad:rowP s i = false→srcB s = false:=fun k=>by rw [hB2,qy7 hi2 k];rfl
  have hgd:rowP s i = true→(List.range (i + 1)).all (rowP s) = true:=fun k=>by rw [ZD,i2,k];rfl
  have hP:rowP s i = ((rowE s.sch s.rows[i] == 0) && (decide (i = 0) || decide (hd (s.rows.getD (i - 1) []) < hd s.rows[i]))):=by rw [rowP,hpi]
  simp only [tZ,↓un_u,simprocAttr,Int.toNat_natCast,qd hi2]
  refine ⟨by omega,?_⟩
  refine C1.im (qb7 s.sch hs1 s.rows[i] (hs2 _ (List.getElem_mem hi2))) (by rfl) (by rfl) ?_
  by_cases hR:rowE s.sch s.rows[i] = 0
  case neg=>
   have e0:(rowE s.sch s.rows[i] != 0) = true:=bne_iff_ne.2 hR
   rw [hbad (by rw [hP,beq_eq_false_iff_ne.2 hR];rfl)]
   rcases Nat.eq_zero_or_pos i with hi0 | hi0
   ·subst hi0
    have hz:((0:Nat):Int) = 0:=rfl
    have hz2:(IntKind.i64.wrap (-1)).toNat = 0:=by decide
    rcases Nat.eq_zero_or_pos s.rows[0].length with h0 | h0
    ·have hgj:(s.rows[0].map vI).getD 0 .junk = .junk:=yz (by omega)
     simp only [tZ,↓un_u,simprocAttr,e0,Int.toNat_natCast,hz,beq_self_eq_true,gt_iff_lt,Int.lt_irrefl,Bool.true_and,hz2,qd hi2,hgj]
     refine ⟨by kernel_rfl,?_⟩
     exact .oA [] []
    ·simp only [tZ,↓un_u,simprocAttr,e0,Int.toNat_natCast,hz,beq_self_eq_true,gt_iff_lt,Int.lt_irrefl,Bool.true_and,hz2,qd hi2,qU h0]
     refine ⟨by kernel_rfl,?_⟩
     exact .oA [] []
   ·obtain ⟨k,rfl⟩:∃ k,i = k + 1:=⟨i - 1,by omega⟩
    have hk3:k < s.rows.length:=by omega
    have e2:decide (((k + 1:Nat):Int) > 0) = true:=decide_eq_true (by omega)
    have e3:=zk (i:=k + 1) (by omega) (by omega)
    rw [Nat.add_sub_cancel] at e3
    have hkp:0 < s.rows[k].length:=by
     have:=List.all_eq_true.1 i2 k (List.mem_range.2 (by omega))
     rw [rowP,qj hk3,Bool.and_eq_true,beq_iff_eq] at this
     exact Jx this.1
    rcases Nat.eq_zero_or_pos s.rows[k + 1].length with h0 | h0
    ·have hgj:(s.rows[k + 1].map vI).getD 0 .junk = .junk:=yz (by omega)
     simp only [tZ,↓un_u,simprocAttr,e0,Int.toNat_natCast,qd hi2,qd hk3,e2,e3,hgj,qU hkp]
     refine ⟨by kernel_rfl,?_⟩
     exact .oA [] []
    ·simp only [tZ,↓un_u,simprocAttr,e0,Int.toNat_natCast,qd hi2,qd hk3,e2,e3,qU h0,qU hkp]
     refine ⟨by kernel_rfl,?_⟩
     exact .oA [] []
  have e0:(rowE s.sch s.rows[i] != 0) = false:=bne_eq_false_iff_eq.2 hR
  rw [beq_iff_eq.2 hR,Bool.true_and] at hP
  have hrp:=Jx hR
  rcases Nat.eq_zero_or_pos i with hi0 | hi0
  ·subst hi0
   have hz:((0:Nat):Int) = 0:=rfl
   have hz2:(IntKind.i64.wrap (-1)).toNat = 0:=by decide
   have hz3:=qg (i:=0) (by omega)
   rw [hz] at hz3
   simp only [tZ,↓un_u,simprocAttr,e0,Int.toNat_natCast,hz,beq_self_eq_true,gt_iff_lt,Int.lt_irrefl,Bool.true_and,hz2,qd hi2,hz3,qU hrp]
   refine ⟨by kernel_rfl,1,⟨by omega,hgd (by rw [hP];rfl)⟩,by omega,?_⟩
   exact .oA [(4096,some 4096)] []
  ·obtain ⟨k,rfl⟩:∃ k,i = k + 1:=⟨i - 1,by omega⟩
   have hk3:k < s.rows.length:=by omega
   have e2:decide (((k + 1:Nat):Int) > 0) = true:=decide_eq_true (by omega)
   have e3:=zk (i:=k + 1) (by omega) (by omega)
   rw [Nat.add_sub_cancel] at e3 hP
   rw [qj hk3,decide_eq_false (by omega),Bool.false_or] at hP
   have hkp:0 < s.rows[k].length:=by
    have:=List.all_eq_true.1 i2 k (List.mem_range.2 (by omega))
    rw [rowP,qj hk3,Bool.and_eq_true,beq_iff_eq] at this
    exact Jx this.1
   simp only [tZ,↓un_u,simprocAttr,e0,Int.toNat_natCast,qd hi2,qd hk3,e2,e3,hwi,qU hrp,qU hkp,tD]
   refine ⟨by omega,by omega,by omega,by omega,by kernel_rfl,fun h4=>?_,fun h4=>?_⟩
   ·rw [hbad (by rw [hP];exact decide_eq_false (by omega))]
    exact .oA [] []
   ·refine ⟨k + 2,⟨by omega,hgd (by rw [hP];exact decide_eq_true (by omega))⟩,by omega,?_⟩
    exact .oA [(4096,some 4096)] []
 ·have hil:i = s.rows.length:=by omega
  subst hil
  rw [i2,Bool.true_and] at hB2
  have hrl:s.rows.length < 4611686018427387904:=by omega
  refine qr mixm (α:=Nat) [4] (fun i=>i≤s.gone.length∧(List.range i).all (zj0 s) = true) (fun i=>[(4,vI i)]) (fun i=>[(4096,.arr 5 [srcT s] false)]) (fun i=>s.gone.length - i) 0 ⟨by omega,rfl⟩ ?_ fun i hi=>?_
  ·exact .oA [(4096,some 4096)] []
  obtain ⟨j1,j2⟩:=hi
  refine sD ?_
  refine ⟨fun h2=>?_,fun h2=>?_⟩
  ·have hi2:i < s.gone.length:=by omega
   have hwi:=qg (i:=i) (by omega)
   have hpi:s.gone.getD i 0 = s.gone[i]:=qj hi2
   have hbad:zj0 s i = false→srcB s = false:=fun k=>by rw [hB2,qy7 hi2 k]
   have hgd:zj0 s i = true→(List.range (i + 1)).all (zj0 s) = true:=fun k=>by rw [ZD,j2,k];rfl
   have hP:zj0 s i = (decide (1≤s.gone[i]) && decide (s.gone[i]≤1048575) && asc2 s.gone i && decide (qc0 s s.gone[i] < 0)):=by rw [zj0,hpi]
   have hF:=ZE s s.gone[i] hrl
   rcases Nat.eq_zero_or_pos i with hi0 | hi0
   ·subst hi0
    have hz:((0:Nat):Int) = 0:=rfl
    have hz2:(IntKind.i64.wrap (-1)).toNat = 0:=by decide
    have hz3:=qg (i:=0) (by omega)
    rw [hz] at hz3
    have hA:asc2 s.gone 0 = true:=rfl
    rw [hA,Bool.and_true] at hP
    simp only [tZ,↓un_u,simprocAttr,Int.toNat_natCast,hz,beq_self_eq_true,gt_iff_lt,Int.lt_irrefl,Bool.true_and,hz2,qd hi2,hz3,Bool.or_false]
    refine ⟨by omega,fun _=>by omega,fun _=>by omega,?_⟩
    refine C2.im (fun _=>hF) (fun _=>rfl) (by rfl) ?_
    simp only [tZ,↓un_u,simprocAttr,tD,hz3]
    refine ⟨by kernel_rfl,fun h4=>?_,fun h4=>?_⟩
    ·rw [hbad (by rw [hP];grind)]
     exact .oA [] []
    ·refine ⟨1,⟨by omega,hgd (by rw [hP];grind)⟩,by omega,?_⟩
     exact .oA [(4096,some 4096)] []
   ·obtain ⟨k,rfl⟩:∃ k,i = k + 1:=⟨i - 1,by omega⟩
    have hk3:k < s.gone.length:=by omega
    have e2:decide (((k + 1:Nat):Int) > 0) = true:=decide_eq_true (by omega)
    have e3:=zk (i:=k + 1) (by omega) (by omega)
    rw [Nat.add_sub_cancel] at e3
    have hA:asc2 s.gone (k + 1) = decide (s.gone[k] < s.gone[k + 1]):=by
     rw [asc2,Nat.add_sub_cancel,qj hk3,hpi,decide_eq_false (by omega)];rfl
    rw [hA] at hP
    simp only [tZ,↓un_u,simprocAttr,Int.toNat_natCast,qd hi2,qd hk3,e2,e3]
    refine ⟨by omega,fun _=>by omega,fun _=>by omega,fun _=>by omega,fun _=>by omega,?_⟩
    refine C2.im (fun _=>hF) (fun _=>rfl) (by rfl) ?_
    simp only [tZ,↓un_u,simprocAttr,tD,hwi]
    refine ⟨by kernel_rfl,fun h4=>?_,fun h4=>?_⟩
    ·rw [hbad (by rw [hP];grind)]
     exact .oA [] []
    ·refine ⟨k + 2,⟨by omega,hgd (by rw [hP];grind)⟩,by omega,?_⟩
     exact .oA [(4096,some 4096)] []
  ·have hil:i = s.gone.length:=by omega
   subst hil
   rw [hB2,j2]
   exact .oA [] []
end Go.Proofs
namespace Go.Proofs
open Go Go.TL
set_option maxHeartbeats 4000000
open So
theorem SrcOk.rowp {s:Src} (h:SrcOk s):∀ r∈s.rows,0 < r.length:=fun r hr=>Jx (h.rows r hr)
theorem qi2 (s:Src) (d:Edt) (hs:qI3 s) (hd1:d.row.length < 4611686018427387904):Spc Tryz.prog Qm [srcT s,edtT d] [] (.tup [srcT (Qf s d),vI (wg s d)]) []:=by
 have hE:=(rfl:wg s d = wg s d)
 have hS:Qf s d = if wg s d≠0 then src0 else ⟨s.sch,qi1 s d,if d.kind = 4 then putI s.gone d.id else s.gone,s.ver + 1⟩:=rfl
 conv at hE=>rhs;unfold wg
 have hbad:∀ v,v≠0→wg s d = v→Qf s d = src0∧wg s d = v:=fun v h1 h2=>⟨by rw [hS,h2,if_pos h1],h2⟩
 have hgood:wg s d = 0→Qf s d = ⟨s.sch,qi1 s d,if d.kind = 4 then putI s.gone d.id else s.gone,s.ver + 1⟩:=fun h=>by rw [hS,h,if_neg (by simp)]
 clear hS
 generalize wg s d = E at hE hbad hgood ⊢
 generalize Qf s d = A at hbad hgood ⊢
 refine qe qD1 mixm (by simp) fun e _ hst=>qh ?_
 unfold ZV
 refine sW ?_
 refine C1.im (KO s hs) (by rfl) (by rfl) ?_
 simp only [tZ,↓un_u,simprocAttr,tD,beq_iff_eq,beq_eq_false_iff_ne,Bool.not_eq_true',Bool.not_eq_false']
 refine ⟨fun h=>?_,fun h=>?_⟩
 ·obtain ⟨a1,a2⟩:=hbad 13 (by decide) (by rw [hE,if_pos h])
  rw [a1,a2]
  exact .oA [] []
 rw [if_neg (by grind)] at hE
 have hok:=qm6.1 h.1
 have hv:=hok.ver
 have hrp:=hok.rowp
 have hnr:=hok.nr
 have hng:=hok.ng
 have hw:IntKind.i64.wrap (s.ver + 1) = s.ver + 1:=IntWalk.i64_in _ (by omega)
 have hR:qi1 s d = if d.kind = 1∨d.kind = 2 then putR s.rows d.row else qA2 s.rows d.id:=rfl
 have hg0:0 < d.row.length→(d.row.map vI).getD 0 .junk = vI (hd d.row):=qU
 by_cases k12:d.kind = 1∨d.kind = 2
 ·rw [if_pos k12] at hE hR
  have hk4:¬ d.kind = 4:=by omega
  rw [if_neg hk4,hR] at hgood
  refine mid (fun hmain=>⟨fun k1=>⟨fun _=>hmain,fun k=>absurd k1 k⟩,fun k1=>⟨fun k2=>hmain,fun k2=>absurd k12 fun h=>h.elim k1 k2⟩⟩) ?_
  refine C1.im (qb7 s.sch hs.1 d.row hd1) (by rfl) (by rfl) ?_
  simp only [tZ,↓un_u,simprocAttr,bne_iff_ne,bne_eq_false_iff_eq]
  refine ⟨fun h2=>?_,fun h2=>?_⟩
  ·obtain ⟨a1,a2⟩:=hbad _ h2 (by rw [hE,if_pos h2])
   rw [a1,a2]
   exact .oA [] []
  rw [if_neg (by rw [h2];simp)] at hE
  have hdp:=Jx h2
  have hdl:=(WO h2).2.1
  have hnc:=(qT hok.sch).nc
  have hF:=ZE s (hd d.row) (by omega)
  simp only [tZ,↓un_u,simprocAttr,qU hdp]
  refine ⟨by omega,?_⟩
  refine C1.im (yn s.gone (hd d.row) (by omega)) (by rfl) (by rfl) ?_
  refine sW ?_
  refine ⟨by kernel_rfl,fun h3=>?_,fun h3=>?_⟩
  ·obtain ⟨a1,a2⟩:=hbad 20 (by decide) (by rw [hE,if_pos h3])
   rw [a1,a2]
   exact .oA [] []
  rw [if_neg (by rw [h3];simp)] at hE
  simp only [tZ,↓un_u,simprocAttr,qU hdp]
  refine ⟨by omega,?_⟩
  refine C1.im hF (by rfl) (by rfl) ?_
  simp only [tZ,↓un_u,simprocAttr,tD,beq_iff_eq,beq_eq_false_iff_ne]
  refine ⟨by kernel_rfl,fun h4=>?_,fun h4=>?_⟩
  ·obtain ⟨a1,a2⟩:=hbad 10 (by decide) (by rw [hE,if_pos (by omega)])
   rw [a1,a2]
   exact .oA [] []
  rw [if_neg (by omega)] at hE
  refine ⟨fun h5=>?_,fun h5=>?_⟩
  ·obtain ⟨a1,a2⟩:=hbad 1 (by decide) (by rw [hE,if_pos (by omega)])
   rw [a1,a2]
   exact .oA [] []
  rw [if_neg (by omega)] at hE
  simp only [tZ,↓un_u,simprocAttr,tD,beq_iff_eq,beq_eq_false_iff_ne,Bool.not_eq_true',Bool.not_eq_false']
  refine ⟨fun h6=>?_,fun h6=>?_⟩
  ·obtain ⟨a1,a2⟩:=hbad 19 (by decide) (by rw [hE,if_pos (by omega)])
   rw [a1,a2]
   exact .oA [] []
  rw [if_neg (by omega)] at hE
  have a1:=hgood hE
  rw [a1,hE]
  refine ⟨by omega,?_⟩
  refine C1.shut [86032] (KN s.rows d.row (by omega) hrp hdp) ?_ (by rfl) rfl ?_
  ·simp only [tL,simprocAttr]
   exact zy6 _
  simp only [tZ,↓un_u,simprocAttr,hw]
  refine ⟨by kernel_rfl,?_⟩
  exact .oA [] []
 ·rw [if_neg k12] at hE hR
  rw [hR] at hgood
  refine ⟨fun k1=>absurd (.inl k1) k12,fun k1=>⟨fun k2=>absurd (.inr k2) k12,fun k2=>⟨fun k3=>?_,fun k3=>⟨fun k4=>?_,fun k4=>?_⟩⟩⟩⟩
  ·rw [if_pos k3] at hE
   rw [if_neg (by omega)] at hgood
   refine C1.im (ZE s d.id (by omega)) (by rfl) (by rfl) ?_
   refine sD ?_
   refine ⟨fun h2=>?_,fun h2=>?_⟩
   ·obtain ⟨a1,a2⟩:=hbad 19 (by decide) (by rw [hE,if_pos h2])
    rw [a1,a2]
    exact .oA [] []
   rw [if_neg h2] at hE
   have a1:=hgood hE
   rw [a1,hE]
   refine C1.im (qo8 s.rows d.id (by omega) hrp) (by rfl) (by rfl) ?_
   simp only [tZ,↓un_u,simprocAttr,hw]
   exact .oA [] []
  ·rw [if_neg k3,if_pos k4] at hE
   rw [if_pos k4] at hgood
   refine ⟨fun h2=>?_,fun h2=>?_⟩
   ·obtain ⟨a1,a2⟩:=hbad 2 (by decide) (by rw [hE,if_pos (by omega)])
    rw [a1,a2]
    exact .oA [] []
   rw [if_neg (by omega)] at hE
   refine C1.im (yn s.gone d.id (by omega)) (by rfl) (by rfl) ?_
   refine sW ?_
   refine ⟨fun h3=>?_,fun h3=>?_⟩
   ·obtain ⟨a1,a2⟩:=hbad 20 (by decide) (by rw [hE,if_pos h3])
    rw [a1,a2]
    exact .oA [] []
   rw [if_neg (by rw [h3];simp)] at hE
   have a1:=hgood hE
   rw [a1,hE]
   refine C1.im (qo8 s.rows d.id (by omega) hrp) (by rfl) (by rfl) ?_
   refine sW ?_
   refine C1.im (zo9 s.gone d.id (by omega)) (by rfl) (by rfl) ?_
   simp only [tZ,↓un_u,simprocAttr,hw]
   exact .oA [] []
  ·rw [if_neg k3,if_neg k4] at hE
   obtain ⟨a1,a2⟩:=hbad 4 (by decide) hE
   rw [a1,a2]
   exact .oA [] []
theorem jg8 {s:Src} {d:Edt} (h:qI3 s) (hd1:d.row.length < 4611686018427387904) (he:wg s d = 0):qI3 (Qf s d):=by
 have e0:Qf s d = ⟨s.sch,qi1 s d,if d.kind = 4 then putI s.gone d.id else s.gone,s.ver + 1⟩:=by rw [Qf,if_neg (by rw [he];simp)]
 rw [e0]
 refine ⟨h.1,fun r hr=>?_⟩
 dsimp only at hr
 have hb:srcB s = true:=by
  unfold wg at he
  split at he
  ·cases he
  ·rename_i h1
   cases e:srcB s with
   | true=>rfl
   | false=>exact absurd (.inl e) h1
 unfold qi1 at hr
 split at hr
 ·rcases (Yi (qm6.1 hb).asc).1 hr with hr | hr
  ·rw [hr];exact hd1
  ·exact h.2 r hr.1
 ·exact h.2 r (List.mem_filter.1 hr).1
theorem qW1:∀ (l:List Edt) (s:Src) (d:Edt),(atS s l).2 = 0→atS s (l ++ [d]) = if wg (atS s l).1 d≠0 then (src0,wg (atS s l).1 d) else (Qf (atS s l).1 d,0)
 | [],s,d,_=>rfl
 | x :: r,s,d,h=>by
   rw [atS] at h
   rw [List.cons_append,atS,atS]
   split at h
   ·rename_i h1;exact absurd h h1
   ·rename_i h1
    rw [if_neg h1,if_neg h1]
    exact qW1 r _ d h
theorem zj1:∀ (l m:List Edt) (s:Src),(atS s l).2≠0→atS s (l ++ m) = atS s l
 | [],m,s,h=>by simp [atS] at h
 | x :: r,m,s,h=>by
   rw [atS] at h
   rw [List.cons_append,atS,atS]
   split at h
   ·rename_i h1;rw [if_pos h1,if_pos h1]
   ·rename_i h1
    rw [if_neg h1,if_neg h1]
    exact zj1 r m _ h
def atI (s:Src) (l:List Edt) (n:Int):Src×Int:=if n < 0∨n > l.length then (src0,13) else atS s (l.take n.toNat)
theorem zF2 (s:Src) (l:List Edt) (n:Int) (hs:qI3 s) (hd1:∀ d∈l,d.row.length < 4611686018427387904) (hl:l.length < 4611686018427387904):Spc Tryz.prog qk8 [srcT s,.sl 3 (l.map edtT),vI n] [] (.tup [srcT (atI s l n).1,vI (atI s l n).2]) []:=by
 refine qe zn6 mixm (by simp) fun e _ hst=>qh ?_
 unfold YY
 refine sD ?_
 refine ⟨fun h=>?_,fun h=>?_⟩
 ·rw [atI,if_pos h]
  exact .oA [] []
 rw [atI,if_neg (by omega)]
 obtain ⟨N,rfl⟩:=Int.eq_ofNat_of_zero_le (show 0≤n by omega)
 rw [Int.toNat_natCast]
 refine qr mixm (α:=Nat) [8,18] (fun i=>i≤N∧(atS s (l.take i)).2 = 0∧qI3 (atS s (l.take i)).1) (fun i=>[(8,vI i)]) (fun i=>[(4096,.arr 5 [srcT (atS s (l.take i)).1] false),(4100,.arr 5 [srcT src0] false)]) (fun i=>N - i) 0 ⟨by omega,rfl,hs⟩ ?_ fun i hi=>?_
 ·show Le _ _ ⟨_,[(4096,.arr 5 [srcT s] false),(4100,.arr 5 [srcT src0] false)]⟩
  exact .oA [(4096,some 4096),(4100,some 4100)] []
 obtain ⟨i1,i2,i3⟩:=hi
 refine sD ?_
 refine ⟨fun h2=>?_,fun h2=>?_⟩
 ·have hi2:i < l.length:=by omega
  have hwi:=qg (i:=i) (by omega)
  have hsn:=qW1 (l.take i) s l[i] i2
  rw [← qD hi2] at hsn
  have hdr:=hd1 _ (List.getElem_mem hi2)
  generalize (atS s (l.take i)).1 = x at hsn i3 ⊢
  simp only [tZ,↓un_u,simprocAttr,Int.toNat_natCast,qd hi2]
  refine ⟨by omega,?_⟩
  refine C1.im (qi2 x l[i] i3 hdr) (by rfl) (by rfl) ?_
  simp only [tZ,↓un_u,simprocAttr,bne_iff_ne,bne_eq_false_iff_eq,hwi]
  refine ⟨by kernel_rfl,fun h3=>?_,fun h3=>?_⟩
  ·rw [if_pos h3] at hsn
   have e1:l.take N = l.take (i + 1) ++ (l.take N).drop (i + 1):=by
    have:=(List.take_append_drop (i + 1) (l.take N)).symm
    rwa [List.take_take,Nat.min_eq_left (by omega)] at this
   have e2:atS s (l.take N) = (src0,wg x l[i]):=by
    rw [e1,zj1 _ _ _ (by rw [hsn];exact h3),hsn]
   rw [e2]
   exact .oA [] []
  ·rw [if_neg (by rw [h3];simp)] at hsn
   refine ⟨i + 1,⟨by omega,by rw [hsn],by rw [hsn];exact jg8 i3 hdr h3⟩,by omega,?_⟩
   rw [hsn]
   exact .oA [(4096,some 4096),(4100,some 4100)] []
 ·have hil:i = N:=by omega
  subst hil
  rw [i2]
  exact .oA [] []
end Go.Proofs
namespace Go.Proofs
open Go Go.TL
def ordB (l:List (List Int)):Bool:=(List.range l.length).all fun i=>decide (0 < (l.getD i []).length) && (decide (i = 0) || decide (hd (l.getD (i - 1) []) < hd (l.getD i [])))
def hasK (l:List (List Int)) (k:Int):Bool:=l.any fun r=>hd r == k
def rowK (l:List (List Int)) (k:Int):Option (List Int):=l.find? fun r=>hd r == k
def Yy (a b:List (List Int)):List Int:=(a.filter fun r=>!hasK b (hd r)).map hd
def qm7 (a b:List (List Int)):List (List Int):=b.filter fun r=>rowK a (hd r) != some r
def appR (a:List (List Int)) (g:List Int) (rs:List (List Int)):List (List Int):=rs.foldl putR (a.filter fun r=>!g.contains (hd r))
theorem jg9 {a b:List (List Int)} (ha:AscR a) (hb:AscR b) (h:∀ r,r∈a↔r∈b):a = b:=by
 refine So.srt_uniq (lt:=fun x y=>decide (hd x < hd y)) ⟨fun x y h=>?_,fun x y z h1 h2=>?_⟩ (ha.imp fun h=>decide_eq_true h) (hb.imp fun h=>decide_eq_true h) h
 ·simp only [decide_eq_true_eq] at h
  exact decide_eq_false (by omega)
 ·simp only [decide_eq_false_iff_not] at h1 h2 ⊢
  omega
theorem js5 {l:List (List Int)} (h:AscR l) {r s:List Int} (hr:r∈l) (hs:s∈l) (e:hd r = hd s):r = s:=by
 obtain ⟨i,hi,rfl⟩:=List.getElem_of_mem hr
 obtain ⟨j,hj,rfl⟩:=List.getElem_of_mem hs
 have hp:=List.pairwise_iff_getElem.1 h
 by_cases h1:i < j
 ·have:=hp i j hi hj h1;omega
 ·by_cases h2:j < i
  ·have:=hp j i hj hi h2;omega
  ·have:i = j:=by omega
   subst this;rfl
theorem zj2 {l:List (List Int)} (h:AscR l) {r:List Int}:rowK l (hd r) = some r↔r∈l:=by
 constructor
 ·intro e;exact List.mem_of_find?_eq_some e
 ·intro hr
  unfold rowK
  cases e:l.find? (fun s=>hd s == hd r) with
  | none=>
    have:=List.find?_eq_none.1 e r hr
    simp at this
  | some s=>
    have h1:=List.mem_of_find?_eq_some e
    have h2:=List.find?_some e
    rw [js5 h h1 hr (by simpa using h2)]
theorem zW7:∀ (rs l:List (List Int)),AscR l→AscR rs→AscR (rs.foldl putR l)∧∀ r,r∈rs.foldl putR l↔r∈rs∨(r∈l∧∀ q∈rs,hd r≠hd q)
 | [],l,h,_=>⟨h,fun r=>by simp⟩
 | q :: rs,l,h,hr=>by
   obtain ⟨h1,h2⟩:=List.pairwise_cons.1 hr
   obtain ⟨h3,h4⟩:=zW7 rs (putR l q) (qs1 h) h2
   refine ⟨h3,fun r=>?_⟩
   rw [List.foldl_cons,h4,Yi h,List.mem_cons]
   constructor
   ·rintro (a | ⟨a | ⟨a,b⟩,c⟩)
    ·exact .inl (.inr a)
    ·exact .inl (.inl a)
    ·refine .inr ⟨a,fun x hx=>?_⟩
     rcases List.mem_cons.1 hx with rfl | hx
     ·exact b
     ·exact c x hx
   ·rintro ((a | a) | ⟨a,b⟩)
    ·subst a
     exact .inr ⟨.inl rfl,fun x hx=>by have:=h1 x hx;omega⟩
    ·exact .inl a
    ·exact .inr ⟨.inr ⟨a,b q (by simp)⟩,fun x hx=>b x (List.mem_cons_of_mem _ hx)⟩
def JQ (a b:Ext):Int:=if ordB a.rows = false∨ordB b.rows = false then 11 else if eqB a.proj b.proj = false∨yH a.picks b.picks = false then 23 else 0
def qi3 (a b:Ext):Chg:=if JQ a b≠0 then ⟨0,[],[]⟩ else ⟨b.ver,Yy a.rows b.rows,qm7 a.rows b.rows⟩
def ascI (l:List Int):Bool:=(List.range l.length).all fun i=>asc2 l i
def appE (a:Ext) (c:Chg):Int:=
 if ordB a.rows = false∨ordB c.rows = false∨ascI c.gone = false∨(c.rows.any fun r=>decide (r.length≠a.picks.length + 1)) = true then 11
 else if (c.gone.any fun k=>!hasK a.rows k) = true then 21 else if (c.gone.any fun k=>hasK c.rows k) = true then 10 else 0
def appX (a:Ext) (c:Chg):Ext:=if appE a c≠0 then ⟨⟨#[]⟩,0,[],[]⟩ else ⟨a.proj,c.ver,a.picks,appR a.rows c.gone c.rows⟩
theorem KP {l:List (List Int)}:ordB l = true↔(∀ r∈l,0 < r.length)∧AscR l:=by
 unfold ordB
 simp only [List.all_eq_true,List.mem_range,Bool.and_eq_true,decide_eq_true_eq,Bool.or_eq_true]
 constructor
 ·intro h
  refine ⟨fun r hr=>?_,js3 (f:=hd) fun i h0 hi=>((h i hi).2.resolve_left (by omega))⟩
  obtain ⟨i,hi,rfl⟩:=List.getElem_of_mem hr
  have:=(h i hi).1
  rw [qj hi] at this
  exact this
 ·intro h i hi
  refine ⟨by rw [qj hi];exact h.1 _ (List.getElem_mem hi),?_⟩
  by_cases e:i = 0
  ·exact .inl e
  ·exact .inr (js4 (f:=hd) h.2 (by omega) hi)
structure ExtOk (x:Ext):Prop where
 ord:ordB x.rows = true
 len:∀ r∈x.rows,r.length = x.picks.length + 1
end Go.Proofs
namespace Go.Proofs
open Go Go.TL
set_option maxRecDepth 4000
set_option maxHeartbeats 8000000
open So
def RwSm (l:List (List Int)):Prop:=l.length≤1000000∧∀ r∈l,r.length * 8≤140737488355328
structure ExtSm (x:Ext):Prop where
 rows:RwSm x.rows
 picks:x.picks.length * 16≤140737488355328
structure ChgSm (c:Chg):Prop where
 rows:RwSm c.rows
 gone:c.gone.length≤1000000
def ordP (l:List (List Int)) (i:Nat):Bool:=decide (0 < (l.getD i []).length) && (decide (i = 0) || decide (hd (l.getD (i - 1) []) < hd (l.getD i [])))
theorem wT (l:List (List Int)) (hl:l.length≤1000000):Spc Tryz.prog jg [vRw l] [] (vB (ordB l)) []:=by
 have hB:ordB l = (List.range l.length).all (ordP l):=rfl
 rw [hB]
 refine qe qp9 mixm (by simp) fun e _ hst=>qh ?_
 unfold yP
 refine sW ?_
 refine qr mixm (α:=Nat) [3] (fun i=>i≤l.length∧((List.range i).all (ordP l) = true)) (fun i=>[(3,vI i)]) (fun i=>[]) (fun i=>l.length - i) 0 ⟨by omega,?_⟩ ?_ fun i hi=>?_
 ·rfl
 ·exact .oA [] []
 obtain ⟨i1,i2⟩:=hi
 refine sD ?_
 refine ⟨fun h2=>?_,fun h2=>?_⟩
 ·have hi2:i < l.length:=by omega
  have hwi:=qg (i:=i) (by omega)
  have hpi:l.getD i [] = l[i]:=qj hi2
  have hgd:ordP l i = true→(List.range (i + 1)).all (ordP l) = true:=fun k=>by rw [ZD,i2,k];rfl
  have hP:ordP l i = (decide (0 < l[i].length) && (decide (i = 0) || decide (hd (l.getD (i - 1) []) < hd l[i]))):=by rw [ordP,hpi]
  have hbad:ordP l i = false→(List.range l.length).all (ordP l) = false:=fun k=>qy7 hi2 k
  rcases Nat.eq_zero_or_pos l[i].length with hz0 | hz0
  ·have e0:((l[i].length:Int) == 0) = true:=beq_iff_eq.2 (by omega)
   have hgj:(l[i].map vI).getD 0 .junk = .junk:=yz (by omega)
   rw [hbad (by rw [hP,decide_eq_false (by omega)];rfl)]
   rcases Nat.eq_zero_or_pos i with hi0 | hi0
   ·subst hi0
    have hz:((0:Nat):Int) = 0:=rfl
    have hz2:(IntKind.i64.wrap (-1)).toNat = 0:=by decide
    simp only [tZ,↓un_u,simprocAttr,e0,Int.toNat_natCast,hz,hz2,qd hi2,hgj]
    refine ⟨by omega,by kernel_rfl,?_⟩
    exact .oA [] []
   ·obtain ⟨k,rfl⟩:∃ k,i = k + 1:=⟨i - 1,by omega⟩
    have hk3:k < l.length:=by omega
    have e3:=zk (i:=k + 1) (by omega) (by omega)
    rw [Nat.add_sub_cancel] at e3
    have hkp:0 < l[k].length:=by
     have:=List.all_eq_true.1 i2 k (List.mem_range.2 (by omega))
     rw [ordP,qj hk3,Bool.and_eq_true,decide_eq_true_eq] at this
     exact this.1
    simp only [tZ,↓un_u,simprocAttr,e0,Int.toNat_natCast,qd hi2,qd hk3,e3,hgj,qU hkp]
    refine ⟨by omega,by kernel_rfl,?_⟩
    exact .oA [] []
  ·have e0:((l[i].length:Int) == 0) = false:=beq_eq_false_iff_ne.2 (by omega)
   rw [decide_eq_true hz0,Bool.true_and] at hP
   rcases Nat.eq_zero_or_pos i with hi0 | hi0
   ·subst hi0
    have hz:((0:Nat):Int) = 0:=rfl
    have hz2:(IntKind.i64.wrap (-1)).toNat = 0:=by decide
    have hz3:=qg (i:=0) (by omega)
    rw [hz] at hz3
    simp only [tZ,↓un_u,simprocAttr,e0,Int.toNat_natCast,hz,gt_iff_lt,Int.lt_irrefl,hz2,qd hi2,qU hz0,hz3]
    refine ⟨by omega,by kernel_rfl,1,⟨by omega,hgd (by rw [hP];rfl)⟩,by omega,?_⟩
    exact .oA [] []
   ·obtain ⟨k,rfl⟩:∃ k,i = k + 1:=⟨i - 1,by omega⟩
    have hk3:k < l.length:=by omega
    have e2:decide (((k + 1:Nat):Int) > 0) = true:=decide_eq_true (by omega)
    have e3:=zk (i:=k + 1) (by omega) (by omega)
    rw [Nat.add_sub_cancel] at e3 hP
    rw [qj hk3,decide_eq_false (by omega),Bool.false_or] at hP
    have hkp:0 < l[k].length:=by
     have:=List.all_eq_true.1 i2 k (List.mem_range.2 (by omega))
     rw [ordP,qj hk3,Bool.and_eq_true,decide_eq_true_eq] at this
     exact this.1
    simp only [tZ,↓un_u,simprocAttr,e0,Int.toNat_natCast,qd hi2,qd hk3,e2,e3,qU hz0,qU hkp,hwi,tD]
    refine ⟨by omega,by omega,by omega,by omega,by omega,by kernel_rfl,fun h4=>?_,fun h4=>?_⟩
    ·rw [hbad (by rw [hP];exact decide_eq_false (by omega))]
     exact .oA [] []
    ·refine ⟨k + 2,⟨by omega,hgd (by rw [hP];exact decide_eq_true (by omega))⟩,by omega,?_⟩
     exact .oA [] []
 ·have hil:i = l.length:=by omega
  subst hil
  rw [i2]
  exact .oA [] []
theorem ko (l:List (List Int)) (hl:l.length≤1000000):Spc Tryz.prog zz [vRw l] [] (vB (ordB l)) []:=by
 have hB:ordB l = (List.range l.length).all (ordP l):=rfl
 rw [hB]
 refine qe qe8 mixm (by simp) fun e _ hst=>qh ?_
 unfold wG
 refine sW ?_
 refine qr mixm (α:=Nat) [7] (fun i=>i≤l.length∧((List.range i).all (ordP l) = true)) (fun i=>[(7,vI i)]) (fun i=>[]) (fun i=>l.length - i) 0 ⟨by omega,?_⟩ ?_ fun i hi=>?_
 ·rfl
 ·exact .oA [] []
 obtain ⟨i1,i2⟩:=hi
 refine sD ?_
 refine ⟨fun h2=>?_,fun h2=>?_⟩
 ·have hi2:i < l.length:=by omega
  have hwi:=qg (i:=i) (by omega)
  have hpi:l.getD i [] = l[i]:=qj hi2
  have hgd:ordP l i = true→(List.range (i + 1)).all (ordP l) = true:=fun k=>by rw [ZD,i2,k];rfl
  have hP:ordP l i = (decide (0 < l[i].length) && (decide (i = 0) || decide (hd (l.getD (i - 1) []) < hd l[i]))):=by rw [ordP,hpi]
  have hbad:ordP l i = false→(List.range l.length).all (ordP l) = false:=fun k=>qy7 hi2 k
  rcases Nat.eq_zero_or_pos l[i].length with hz0 | hz0
  ·have e0:((l[i].length:Int) == 0) = true:=beq_iff_eq.2 (by omega)
   have hgj:(l[i].map vI).getD 0 .junk = .junk:=yz (by omega)
   rw [hbad (by rw [hP,decide_eq_false (by omega)];rfl)]
   rcases Nat.eq_zero_or_pos i with hi0 | hi0
   ·subst hi0
    have hz:((0:Nat):Int) = 0:=rfl
    have hz2:(IntKind.i64.wrap (-1)).toNat = 0:=by decide
    simp only [tZ,↓un_u,simprocAttr,e0,Int.toNat_natCast,hz,hz2,qd hi2,hgj]
    refine ⟨by omega,by kernel_rfl,?_⟩
    exact .oA [] []
   ·obtain ⟨k,rfl⟩:∃ k,i = k + 1:=⟨i - 1,by omega⟩
    have hk3:k < l.length:=by omega
    have e3:=zk (i:=k + 1) (by omega) (by omega)
    rw [Nat.add_sub_cancel] at e3
    have hkp:0 < l[k].length:=by
     have:=List.all_eq_true.1 i2 k (List.mem_range.2 (by omega))
     rw [ordP,qj hk3,Bool.and_eq_true,decide_eq_true_eq] at this
     exact this.1
    simp only [tZ,↓un_u,simprocAttr,e0,Int.toNat_natCast,qd hi2,qd hk3,e3,hgj,qU hkp]
    refine ⟨by omega,by kernel_rfl,?_⟩
    exact .oA [] []
  ·have e0:((l[i].length:Int) == 0) = false:=beq_eq_false_iff_ne.2 (by omega)
   rw [decide_eq_true hz0,Bool.true_and] at hP
   rcases Nat.eq_zero_or_pos i with hi0 | hi0
   ·subst hi0
    have hz:((0:Nat):Int) = 0:=rfl
    have hz2:(IntKind.i64.wrap (-1)).toNat = 0:=by decide
    have hz3:=qg (i:=0) (by omega)
    rw [hz] at hz3
    simp only [tZ,↓un_u,simprocAttr,e0,Int.toNat_natCast,hz,gt_iff_lt,Int.lt_irrefl,hz2,qd hi2,qU hz0,hz3]
    refine ⟨by omega,by kernel_rfl,1,⟨by omega,hgd (by rw [hP];rfl)⟩,by omega,?_⟩
    exact .oA [] []
   ·obtain ⟨k,rfl⟩:∃ k,i = k + 1:=⟨i - 1,by omega⟩
    have hk3:k < l.length:=by omega
    have e2:decide (((k + 1:Nat):Int) > 0) = true:=decide_eq_true (by omega)
    have e3:=zk (i:=k + 1) (by omega) (by omega)
    rw [Nat.add_sub_cancel] at e3 hP
    rw [qj hk3,decide_eq_false (by omega),Bool.false_or] at hP
    have hkp:0 < l[k].length:=by
     have:=List.all_eq_true.1 i2 k (List.mem_range.2 (by omega))
     rw [ordP,qj hk3,Bool.and_eq_true,decide_eq_true_eq] at this
     exact this.1
    simp only [tZ,↓un_u,simprocAttr,e0,Int.toNat_natCast,qd hi2,qd hk3,e2,e3,qU hz0,qU hkp,hwi,tD]
    refine ⟨by omega,by omega,by omega,by omega,by kernel_rfl,fun h4=>?_,fun h4=>?_⟩
    ·rw [hbad (by rw [hP];exact decide_eq_false (by omega))]
     exact .oA [] []
    ·refine ⟨k + 2,⟨by omega,hgd (by rw [hP];exact decide_eq_true (by omega))⟩,by omega,?_⟩
     exact .oA [] []
 ·have hil:i = l.length:=by omega
  subst hil
  rw [i2]
  exact .oA [] []
def fndR (l:List (List Int)) (k:Int):Int:=if hasK l k = true then (l.findIdx (fun r=>hd r == k):Int) else -1
theorem qW2 {l:List (List Int)} {k:Int}:fndR l k < 0↔hasK l k = false:=by
 unfold fndR
 cases h:hasK l k with
 | true=>simp
 | false=>simp
theorem jh0 {l:List (List Int)} {k:Int} (h:hasK l k = true):∃ j:Nat,fndR l k = j∧∃ hj:j < l.length,rowK l k = some l[j]:=by
 have h1:l.findIdx (fun r=>hd r == k) < l.length:=List.findIdx_lt_length_of_exists (by
  obtain ⟨x,a,b⟩:=List.any_eq_true.1 h
  exact ⟨x,a,b⟩)
 refine ⟨_,by rw [fndR,if_pos h],h1,?_⟩
 unfold rowK
 exact List.find?_eq_some_iff_getElem.2 ⟨List.findIdx_getElem (w:=h1),_,h1,rfl,fun j hj=>by
  have:=List.not_of_lt_findIdx hj
  simpa using this⟩
theorem ZF (l:List (List Int)) (k:Int) (hl:l.length≤1000000) (hr:∀ r∈l,0 < r.length):Spc Tryz.prog wc [vRw l,vI k] [] (vI (fndR l k)) []:=by
 refine qe qR2 mixm (by simp) fun e _ hst=>qh ?_
 unfold Kq
 refine sW ?_
 refine qr mixm (α:=Nat) [5] (fun i=>i≤l.length∧((l.take i).any (fun r=>hd r == k) = false)) (fun i=>[(5,vI i)]) (fun i=>[]) (fun i=>l.length - i) 0 ⟨by omega,?_⟩ ?_ fun i hi=>?_
 ·rfl
 ·exact .oA [] []
 simp only [tZ,↓un_u,simprocAttr,decide_eq_true_eq,decide_eq_false_iff_not]
 refine ⟨fun h=>?_,fun h=>?_⟩
 ·have hgi:=qU (hr _ (List.getElem_mem (show i < l.length by omega)))
  have hrp:=hr _ (List.getElem_mem (show i < l.length by omega))
  have hi2:i < l.length:=by omega
  have hwi:=qg (i:=i) (by omega)
  simp only [tZ,↓un_u,simprocAttr,Int.toNat_natCast,qd hi2,hwi,hgi]
  refine ⟨by omega,by omega,fun h3=>?_,fun h3=>⟨i + 1,⟨by omega,zP hi2 hi.2 h3⟩,by omega,?_⟩⟩
  ·rw [fndR,if_pos (show hasK l k = true from qo3 hi2 h3),QD hi2 hi.2 h3]
   exact .oA [] []
  ·exact .oA [] []
 ·have hi2:i = l.length:=by omega
  subst hi2
  have h3:=hi.2
  rw [List.take_length] at h3
  rw [fndR,if_neg (by unfold hasK;rw [h3];simp)]
  exact .oA [] []
theorem qN3 (b:List (List Int)) (l:List (List Int)) {i:Nat} (h:i < l.length):Yy (l.take (i + 1)) b = Yy (l.take i) b ++ if hasK b (hd l[i]) = false then [hd l[i]] else []:=by
 unfold Yy
 rw [qD h,List.filter_append,List.map_append,List.filter_cons,List.filter_nil]
 congr 1
 cases hasK b (hd l[i]) <;> rfl
theorem qN4 (a:List (List Int)) (l:List (List Int)) {i:Nat} (h:i < l.length):qm7 a (l.take (i + 1)) = qm7 a (l.take i) ++ if rowK a (hd l[i])≠some l[i] then [l[i]] else []:=by
 unfold qm7
 rw [qD h,List.filter_append,List.filter_cons,List.filter_nil]
 congr 1
 by_cases k:rowK a (hd l[i]) = some l[i]
 ·rw [if_neg (by simp [k]),if_neg (by simp [k])]
 ·rw [if_pos (by simpa using k),if_pos k]
theorem qA3 (b l:List (List Int)):(Yy l b).length≤l.length:=by
 unfold Yy
 rw [List.length_map];exact List.length_filter_le _ _
theorem qA4 (a l:List (List Int)):(qm7 a l).length≤l.length:=List.length_filter_le _ _
theorem zj3 (a b:Ext) (ha:ExtSm a) (hb:ExtSm b):Spc Tryz.prog Wp [extT a,extT b] [] (.tup [chgT (qi3 a b),vI (JQ a b)]) []:=by
 have hE:=(rfl:JQ a b = JQ a b)
 have hS:qi3 a b = if JQ a b≠0 then ⟨0,[],[]⟩ else ⟨b.ver,Yy a.rows b.rows,qm7 a.rows b.rows⟩:=rfl
 conv at hE=>rhs;unfold JQ
 have hbad:∀ v,v≠0→JQ a b = v→qi3 a b = ⟨0,[],[]⟩∧JQ a b = v:=fun v h1 h2=>⟨by rw [hS,h2,if_pos h1],h2⟩
 have hgood:JQ a b = 0→qi3 a b = ⟨b.ver,Yy a.rows b.rows,qm7 a.rows b.rows⟩:=fun h=>by rw [hS,h,if_neg (by simp)]
 clear hS
 generalize JQ a b = E at hE hbad hgood ⊢
 generalize qi3 a b = A at hbad hgood ⊢
 have har:=ha.rows
 have hbr:=hb.rows
 have hap:=ha.picks
 have hla:=har.1
 have hlb:=hbr.1
 refine qe qQ2 mixm (by simp) fun e _ hst=>qh ?_
 unfold Kl
 refine sW ?_
 refine C1.im (wT a.rows har.1) (by rfl) (by rfl) ?_
 refine sW ?_
 refine C2.im (fun _=>wT b.rows hbr.1) (fun _=>rfl) (by rfl) ?_
 simp only [tZ,↓un_u,simprocAttr,tD,Bool.not_eq_true',Bool.not_eq_false']
 refine ⟨fun h=>?_,fun h=>?_⟩
 ·obtain ⟨a1,a2⟩:=hbad 11 (by decide) (by rw [hE,if_pos h])
  rw [a1,a2]
  exact .oA [] []
 rw [if_neg (by rw [h.1,h.2];simp)] at hE
 have hap1:=(KP.1 h.1).1
 have hbp1:=(KP.1 h.2).1
 refine C2.im (fun _=>JP a.picks b.picks (by omega)) (fun _=>rfl) (by rfl) ?_
 have hpe:(a.proj.toList == b.proj.toList) = eqB a.proj b.proj:=rfl
 simp only [tZ,↓un_u,simprocAttr,tD,Bool.not_eq_true',Bool.not_eq_false',hpe]
 refine ⟨fun h2=>?_,fun h2=>?_⟩
 ·obtain ⟨a1,a2⟩:=hbad 23 (by decide) (by rw [hE,if_pos h2])
  rw [a1,a2]
  exact .oA [] []
 rw [if_neg (by rw [h2.1,h2.2];simp)] at hE
 have a1:=hgood hE
 rw [a1,hE]
 clear hbad hgood
 have hap2:=hap1
 have hrw:=hb.rows.2
 refine qr mixm (α:=Nat) [7] (fun i=>i≤a.rows.length) (fun i=>[(7,vI i)]) (fun i=>[(4096,.arr 4 [extT a] false),(4100,.arr 4 [extT b] false),(4104,.arr 3 [chgT ⟨0,[],[]⟩] false),(24588,.arr 3 [.agg [vI b.ver,.asl 1 (Yy (a.rows.take i) b.rows).length,.v (.slice none 0 0)]] false),(1,.arr 1 ((Yy (a.rows.take i) b.rows).map vI) false)]) (fun i=>a.rows.length - i) 0 (by omega) ?_ fun i hi=>?_
 ·exact .oA [(4096,some 4096),(4100,some 4100),(4104,some 4104),(24588,some 24588),(1,none)] []
 ·have hgl:=qA3 b.rows (a.rows.take i)
  rw [List.length_take] at hgl
  refine sD ?_
  refine ⟨fun h3=>?_,fun h3=>?_⟩
  ·have hi2:i < a.rows.length:=by omega
   have hwi:=qg (i:=i) (by omega)
   have hpi:=hap1 _ (List.getElem_mem hi2)
   have hgi:=qU hpi
   have hsp:=qN3 b.rows a.rows hi2
   simp only [tZ,↓un_u,simprocAttr,Int.toNat_natCast,qd hi2,hgi]
   refine ⟨by omega,by omega,?_⟩
   refine C1.im (ZF b.rows (hd a.rows[i]) hlb hbp1) (by rfl) (by rfl) ?_
   refine sD ?_
   refine ⟨by kernel_rfl,fun h4=>?_,fun h4=>?_⟩
   ·rw [if_pos (qW2.1 h4)] at hsp
    have hspl:=congrArg List.length hsp
    simp only [List.length_append,List.length_cons,List.length_nil] at hspl
    simp only [tZ,↓un_u,simprocAttr,Int.toNat_natCast,qd hi2,hgi,hwi]
    refine ⟨by omega,by omega,by omega,by kernel_rfl,i + 1,by omega,by omega,?_⟩
    rw [hsp]
    exact .oA [(4096,some 4096),(4100,some 4100),(4104,some 4104),(24588,some 24588),(1,some 1)] []
   ·rw [if_neg (fun k=>h4 (qW2.2 k)),List.append_nil] at hsp
    simp only [tZ,↓un_u,simprocAttr,hwi]
    refine ⟨i + 1,by omega,by omega,?_⟩
    rw [hsp]
    exact .oA [(4096,some 4096),(4100,some 4100),(4104,some 4104),(24588,some 24588),(1,some 1)] []
  ·have hil:i = a.rows.length:=by omega
   subst hil
   rw [List.take_length] at hgl ⊢
   generalize hG:Yy a.rows b.rows = G at hgl ⊢
   clear hap1 hap
   refine qr mixm (α:=Nat) [8] (fun i=>i≤b.rows.length) (fun i=>[(8,vI i)]) (fun i=>[(4096,.arr 4 [extT a] false),(4100,.arr 4 [extT b] false),(4104,.arr 3 [chgT ⟨0,[],[]⟩] false),(24588,.arr 3 [.agg [vI b.ver,.asl 1 G.length,.asl 2 (qm7 a.rows (b.rows.take i)).length]] false),(1,.arr 1 (G.map vI) false),(2,.arr 1 ((qm7 a.rows (b.rows.take i)).map vIs) false)]) (fun i=>b.rows.length - i) 0 (by omega) ?_ fun i hi=>?_
   ·exact .oA [(4096,some 4096),(4100,some 4100),(4104,some 4104),(24588,some 24588),(1,some 1),(2,none)] []
   ·have hrl:=qA4 a.rows (b.rows.take i)
    rw [List.length_take] at hrl
    refine sD ?_
    refine ⟨fun h3=>?_,fun h3=>?_⟩
    ·have hi2:i < b.rows.length:=by omega
     have hwi:=qg (i:=i) (by omega)
     have hpi:=hbp1 _ (List.getElem_mem hi2)
     have hgi:=qU hpi
     have hsp:=qN4 a.rows b.rows hi2
     have hlr:=hrw _ (List.getElem_mem hi2)
     simp only [tZ,↓un_u,simprocAttr,Int.toNat_natCast,qd hi2,hgi]
     refine ⟨by omega,by omega,?_⟩
     refine C1.im (ZF a.rows (hd b.rows[i]) hla hap2) (by rfl) (by rfl) ?_
     refine (Classical.em (hasK a.rows (hd b.rows[i]) = true)).elim (fun h4=>?_) fun h4=>?_
     ·obtain ⟨j,f1,f2,f3⟩:=jh0 h4
      rw [f1]
      rw [f3] at hsp
      have hlt:decide ((j:Int) < 0) = false:=decide_eq_false (by omega)
      have hal:=har.2 _ (List.getElem_mem f2)
      simp only [tZ,↓un_u,simprocAttr,Int.toNat_natCast,qd hi2,qd f2,hlt]
      refine ⟨by kernel_rfl,by omega,by omega,?_⟩
      have hIn:=yG a.rows[j] b.rows[i] (by omega)
      refine C2.im (fun _=>hIn) (fun _=>rfl) (by rfl) ?_
      simp only [tZ,↓un_u,simprocAttr,Bool.not_eq_true',Bool.not_eq_false']
      refine ⟨by kernel_rfl,fun h5=>?_,fun h5=>?_⟩
      ·rw [if_pos (fun k=>by rw [JL.2 (Option.some.inj k)] at h5;cases h5)] at hsp
       have hspl:=congrArg List.length hsp
       simp only [List.length_append,List.length_cons,List.length_nil] at hspl
       simp only [tZ,↓un_u,simprocAttr,Int.toNat_natCast,qd hi2,hgi,hwi]
       refine ⟨by omega,by omega,by kernel_rfl,i + 1,by omega,by omega,?_⟩
       rw [hsp]
       exact .oA [(4096,some 4096),(4100,some 4100),(4104,some 4104),(24588,some 24588),(1,some 1),(2,some 2)] []
      ·rw [if_neg (fun k=>k (by rw [JL.1 h5])),List.append_nil] at hsp
       simp only [tZ,↓un_u,simprocAttr,hwi]
       refine ⟨i + 1,by omega,by omega,?_⟩
       rw [hsp]
       exact .oA [(4096,some 4096),(4100,some 4100),(4104,some 4104),(24588,some 24588),(1,some 1),(2,some 2)] []
     ·have h4:hasK a.rows (hd b.rows[i]) = false:=by simpa using h4
      have hlt:decide (fndR a.rows (hd b.rows[i]) < 0) = true:=decide_eq_true (qW2.2 h4)
      have hrn:rowK a.rows (hd b.rows[i])≠some b.rows[i]:=fun k=>by
       have k2:=List.find?_some k
       rw [show hasK a.rows (hd b.rows[i]) = true from List.any_eq_true.2 ⟨_,List.mem_of_find?_eq_some k,k2⟩] at h4
       cases h4
      rw [if_pos hrn] at hsp
      have hspl:=congrArg List.length hsp
      simp only [List.length_append,List.length_cons,List.length_nil] at hspl
      simp only [tZ,↓un_u,simprocAttr,Int.toNat_natCast,qd hi2,hlt]
      refine ⟨by kernel_rfl,?_⟩
      refine C2.no (fun k=>k) ?_
      simp only [tZ,↓un_u,simprocAttr,hgi,hwi,Int.toNat_natCast,qd hi2]
      refine ⟨by kernel_rfl,by omega,by omega,by kernel_rfl,i + 1,by omega,by omega,?_⟩
      rw [hsp]
      exact .oA [(4096,some 4096),(4100,some 4100),(4104,some 4104),(24588,some 24588),(1,some 1),(2,some 2)] []
    ·have hil:i = b.rows.length:=by omega
     subst hil
     rw [List.take_length]
     exact .oA [] [1,2]
end Go.Proofs
