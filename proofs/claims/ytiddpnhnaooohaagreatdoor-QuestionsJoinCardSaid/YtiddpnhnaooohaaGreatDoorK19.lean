/- A part of the proof: trees of Go values, short forms, contracts. -/
import Derived.WalkKit
import Derived.Still
import Derived.MapKept
import GoSem.Builtin.Cap
import Derived.Laws.Externs
import GoSem.Extern.SlicesOverlaps
import Derived.Carry
import Derived.ProofKit
import Derived.OpenShut
import Derived.HandedShaped
import Derived.Lay
import Derived.LaidLaws
import Derived.MakeChecks
import Derived.SevenTiedAt
import Derived.Test.YtiddpnhnaooohaaGreatDoorChecked
import Derived.Test.YtiddpnhnaooohaaGreatDoorK18
set_option linter.unusedSimpArgs false
set_option linter.unusedVariables false
namespace Go.Proofs
open Go Go.TL
set_option maxRecDepth 4000
set_option maxHeartbeats 8000000
theorem qb1:∀ {s:Sch} {l:List Cnd} {i:Nat} (h:i < l.length),kV s (l.take i) = 0→nodE s l[i]≠0→kV s l = nodE s l[i]
 | s,x :: r,0,h,_,h2=>by
   have h2:nodE s x≠0:=h2
   rw [kV,if_pos h2];rfl
 | s,x :: r,i + 1,h,h1,h2=>by
   rw [List.take_succ_cons,kV] at h1
   split at h1
   ·rename_i h3;exact absurd h1 h3
   ·rename_i h3
    rw [kV,if_neg h3]
    exact qb1 (l:=r) (i:=i) (by simpa using h) h1 h2
theorem qn2:∀ {s:Sch} {l:List Cnd} {k:Cnd},kV s l = 0→nodE s k = 0→kV s (l ++ [k]) = 0
 | s,[],k,_,h=>by simp [kV,h]
 | s,x :: r,k,h1,h2=>by
   rw [kV] at h1
   split at h1
   ·rename_i h3;exact absurd h1 h3
   ·rename_i h3
    rw [List.cons_append,kV,if_neg h3]
    exact qn2 h1 h2
theorem SchOk.list0 {s:Sch} (h:SchOk s) {i:Nat} (hi:i < s.cols.length) (hk:(qh s i).kind≠2):(qh s i).list = 0:=by
 have:=h.cs i hi
 unfold colE at this
 grind
theorem zb5 (s:Sch) (hok:SchOk s) (hL:0 < s.lists.length):∀ (c:Cnd),Spc Tryz.prog ZI [schT s,cnT c] [] (vI (nodE s c)) []:=by
 refine Cnd.ind' fun c ih=>?_
 have hN0:=qP4 s c
 have hn0:=hok.nl
 have hn1:=hok.nc
 generalize nodE s c = N at hN0 ⊢
 obtain ⟨op,col,code,lo,hi,ks⟩:=c
 simp only [Cnd.op,Cnd.col,Cnd.code,Cnd.lo,Cnd.hi,Cnd.kids] at ih hN0 ⊢
 have hn:ndE s (.mk op col code lo hi ks) = if op < 1∨7 < op then 4
 else if ks.length≠arC op∨(op≠2∧op≠3∧op≠4∧col≠0)∨(op≠2∧code≠0)∨(op≠3∧(lo≠0∨hi≠0)) then 11
 else if (op = 2∧isB s col 2 = false)∨(op = 3∧isB s col 3 = false)∨(op = 4∧(isB s col 3 = false∨(qh s col.toNat).opt = false)) then 7
 else if op = 2∧(code < 0∨code≥(qE s col.toNat).codes.length) then 6
 else if op = 3∧(lo < -1000000∨hi > 1000000∨lo > hi) then 2 else 0:=rfl
 have hbad:∀ v,v≠0→ndE s (.mk op col code lo hi ks) = v→N = v:=fun v h1 h2=>by rw [hN0,h2,if_pos h1]
 have hgood:ndE s (.mk op col code lo hi ks) = 0→N = kV s ks:=fun h2=>by rw [hN0,h2,if_neg (by simp)]
 clear hN0
 generalize ndE s (.mk op col code lo hi ks) = E at hn hbad hgood
 have h0p:0 < s.cols.length:=by omega
 have hg0:(s.cols.map colT).getD 0 .junk = colT s.cols[0]:=qe (i:=0) h0p
 have hl0:s.cols[0].list.toNat = 0:=by
  have h1:=hok.c0
  have:=hok.list0 (i:=0) h0p (by rw [h1];decide)
  rw [qh,qk h0p] at this
  rw [this];rfl
 have hgl:(s.lists.map cdlT).getD 0 .junk = cdlT s.lists[0]:=qe hL
 have hop:op = 1∨op = 2∨op = 3∨op = 4∨op = 5∨op = 6∨op = 7∨op < 1∨7 < op:=by omega
 rcases hop with e | e | e | e | e | e | e | e
 focus
  have q1:(op == 1) = true:=by rw [e];rfl
  have q2:(op == 2) = false:=by rw [e];rfl
  have q3:(op == 3) = false:=by rw [e];rfl
  have q4:(op == 4) = false:=by rw [e];rfl
  have q5:(op == 5) = false:=by rw [e];rfl
  have q6:(op == 6) = false:=by rw [e];rfl
  have q7:(op == 7) = false:=by rw [e];rfl
  simp [arC,-List.length_eq_zero_iff,e] at hn
  refine qd ja mixm (by simp) fun e _ hst=>qg ?_
  unfold zr
  simp only [tZ,↓un_u,simprocAttr,Cnd.op,Cnd.col,Cnd.code,Cnd.lo,Cnd.hi,Cnd.kids,q1,q2,q3,q4,q5,q6,q7]
  refine ⟨by kernel_rfl,fun h=>?_,fun h=>?_⟩
  ·rw [hbad 11 (by decide) (by rw [hn,if_pos];grind)]
   exact .oA [] []
  have hks:ks.length≤2:=by grind
  rw [hgood (by rw [hn,if_neg];grind)]
  have hc0:col.toNat = 0:=by grind
  refine C2.im (fun _=>qW s col 2) (fun _=>rfl) (by rfl) ?_
  simp only [tZ,↓un_u,simprocAttr,Cnd.op,Cnd.col,Cnd.code,Cnd.lo,Cnd.hi,Cnd.kids,q1,q2,q3,q4,q5,q6,q7]
  refine C2.im (fun _=>qW s col 3) (fun _=>rfl) (by rfl) ?_
  simp only [tZ,↓un_u,simprocAttr,Cnd.op,Cnd.col,Cnd.code,Cnd.lo,Cnd.hi,Cnd.kids,q1,q2,q3,q4,q5,q6,q7]
  refine C2.im (fun _=>qW s col 3) (fun _=>rfl) (by rfl) ?_
  simp only [tZ,↓un_u,simprocAttr,Cnd.op,Cnd.col,Cnd.code,Cnd.lo,Cnd.hi,Cnd.kids,q1,q2,q3,q4,q5,q6,q7,hc0,hg0,hl0,hgl]
  refine ⟨by kernel_rfl,?_⟩
 rotate_left
 focus
  have q1:(op == 1) = false:=by rw [e];rfl
  have q2:(op == 2) = true:=by rw [e];rfl
  have q3:(op == 3) = false:=by rw [e];rfl
  have q4:(op == 4) = false:=by rw [e];rfl
  have q5:(op == 5) = false:=by rw [e];rfl
  have q6:(op == 6) = false:=by rw [e];rfl
  have q7:(op == 7) = false:=by rw [e];rfl
  simp [arC,-List.length_eq_zero_iff,e] at hn
  refine qd ja mixm (by simp) fun e _ hst=>qg ?_
  unfold zr
  simp only [tZ,↓un_u,simprocAttr,Cnd.op,Cnd.col,Cnd.code,Cnd.lo,Cnd.hi,Cnd.kids,q1,q2,q3,q4,q5,q6,q7]
  refine ⟨by kernel_rfl,?_⟩
  refine ⟨by kernel_rfl,?_⟩
  refine ⟨fun h=>?_,fun h=>?_⟩
  ·rw [hbad 11 (by decide) (by rw [hn,if_pos];grind)]
   exact .oA [] []
  have hks:ks.length≤2:=by grind
  rw [if_neg (by grind)] at hn
  refine C2.im (fun _=>qW s col 2) (fun _=>rfl) (by rfl) ?_
  simp only [tZ,↓un_u,simprocAttr,Cnd.op,Cnd.col,Cnd.code,Cnd.lo,Cnd.hi,Cnd.kids,q1,q2,q3,q4,q5,q6,q7]
  refine C2.im (fun _=>qW s col 3) (fun _=>rfl) (by rfl) ?_
  simp only [tZ,↓un_u,simprocAttr,Cnd.op,Cnd.col,Cnd.code,Cnd.lo,Cnd.hi,Cnd.kids,q1,q2,q3,q4,q5,q6,q7]
  refine C2.im (fun _=>qW s col 3) (fun _=>rfl) (by rfl) ?_
  by_cases h2:isB s col 2 = false
  ·rw [hbad 7 (by decide) (by rw [hn,if_pos (by grind)])]
   rcases Nat.lt_or_ge col.toNat s.cols.length with hk | hk
   ·simp only [tZ,↓un_u,simprocAttr,Cnd.op,Cnd.col,Cnd.code,Cnd.lo,Cnd.hi,Cnd.kids,q1,q2,q3,q4,q5,q6,q7,h2,qe hk]
    exact .oA [] []
   ·simp only [tZ,↓un_u,simprocAttr,Cnd.op,Cnd.col,Cnd.code,Cnd.lo,Cnd.hi,Cnd.kids,q1,q2,q3,q4,q5,q6,q7,h2,qt2 hk,List.drop_succ_cons,List.drop_nil]
    exact .oA [] []
  rw [Bool.not_eq_false] at h2
  obtain ⟨b1,b2,b3⟩:=zC.1 h2
  obtain ⟨i,hci⟩:∃ i:Nat,col.toNat = i:=⟨_,rfl⟩
  rw [hci] at b3
  try rw [hci] at hn
  have hil:i < s.cols.length:=by omega
  have hat:qh s i = s.cols[i]:=by rw [qh,qk hil]
  have hcd:=hok.cdl hil b3
  have hcd2:=(qY (hok.cs i hil)).2.2.2.1 b3
  have hcl:qE s i = s.lists.getD s.cols[i].list.toNat default:=by rw [qE,hat]
  rw [hat] at hcd hcd2
  rw [hcl,qk hcd.1] at hcd
  have hn:E = if code < 0∨code≥s.lists[s.cols[i].list.toNat].codes.length then 6 else 0:=by
   rw [hn,if_neg (by rw [h2];simp)]
   simp [hil,hcd.1]
  simp only [tZ,↓un_u,simprocAttr,Cnd.op,Cnd.col,Cnd.code,Cnd.lo,Cnd.hi,Cnd.kids,q1,q2,q3,q4,q5,q6,q7,h2,hci,qe hil,qe hcd.1,tD]
  refine ⟨fun _=>by omega,fun _=>by omega,by kernel_rfl,fun h3=>?_,fun h3=>?_⟩
  ·rw [hbad 6 (by decide) (by rw [hn,if_pos (by omega)])]
   exact .oA [] []
  rw [hgood (by rw [hn,if_neg (by omega)])]
 rotate_left
 focus
  have q1:(op == 1) = false:=by rw [e];rfl
  have q2:(op == 2) = false:=by rw [e];rfl
  have q3:(op == 3) = true:=by rw [e];rfl
  have q4:(op == 4) = false:=by rw [e];rfl
  have q5:(op == 5) = false:=by rw [e];rfl
  have q6:(op == 6) = false:=by rw [e];rfl
  have q7:(op == 7) = false:=by rw [e];rfl
  simp [arC,-List.length_eq_zero_iff,e] at hn
  refine qd ja mixm (by simp) fun e _ hst=>qg ?_
  unfold zr
  simp only [tZ,↓un_u,simprocAttr,Cnd.op,Cnd.col,Cnd.code,Cnd.lo,Cnd.hi,Cnd.kids,q1,q2,q3,q4,q5,q6,q7]
  refine ⟨by kernel_rfl,?_⟩
  refine ⟨by kernel_rfl,?_⟩
  refine ⟨fun h=>?_,fun h=>?_⟩
  ·rw [hbad 11 (by decide) (by rw [hn,if_pos];grind)]
   exact .oA [] []
  have hks:ks.length≤2:=by grind
  rw [if_neg (by grind)] at hn
  refine C2.im (fun _=>qW s col 2) (fun _=>rfl) (by rfl) ?_
  simp only [tZ,↓un_u,simprocAttr,Cnd.op,Cnd.col,Cnd.code,Cnd.lo,Cnd.hi,Cnd.kids,q1,q2,q3,q4,q5,q6,q7]
  refine C2.im (fun _=>qW s col 3) (fun _=>rfl) (by rfl) ?_
  simp only [tZ,↓un_u,simprocAttr,Cnd.op,Cnd.col,Cnd.code,Cnd.lo,Cnd.hi,Cnd.kids,q1,q2,q3,q4,q5,q6,q7]
  refine C2.im (fun _=>qW s col 3) (fun _=>rfl) (by rfl) ?_
  by_cases h2:isB s col 3 = false
  ·rw [hbad 7 (by decide) (by rw [hn,if_pos (by grind)])]
   rcases Nat.lt_or_ge col.toNat s.cols.length with hk | hk
   ·simp only [tZ,↓un_u,simprocAttr,Cnd.op,Cnd.col,Cnd.code,Cnd.lo,Cnd.hi,Cnd.kids,q1,q2,q3,q4,q5,q6,q7,h2,qe hk]
    exact .oA [] []
   ·simp only [tZ,↓un_u,simprocAttr,Cnd.op,Cnd.col,Cnd.code,Cnd.lo,Cnd.hi,Cnd.kids,q1,q2,q3,q4,q5,q6,q7,h2,qt2 hk,List.drop_succ_cons,List.drop_nil]
    exact .oA [] []
  rw [Bool.not_eq_false] at h2
  obtain ⟨b1,b2,b3⟩:=zC.1 h2
  obtain ⟨i,hci⟩:∃ i:Nat,col.toNat = i:=⟨_,rfl⟩
  rw [hci] at b3
  try rw [hci] at hn
  have hil:i < s.cols.length:=by omega
  have hat:qh s i = s.cols[i]:=by rw [qh,qk hil]
  have hli:s.cols[i].list.toNat = 0:=by
   have:=hok.list0 hil (by rw [b3];decide)
   rw [hat] at this
   rw [this];rfl
  rw [if_neg (by rw [h2];simp)] at hn
  simp only [tZ,↓un_u,simprocAttr,Cnd.op,Cnd.col,Cnd.code,Cnd.lo,Cnd.hi,Cnd.kids,q1,q2,q3,q4,q5,q6,q7,h2,hci,qe hil,hli,hgl,tD]
  refine ⟨by kernel_rfl,fun h3=>?_,fun h3=>?_⟩
  ·rw [hbad 2 (by decide) (by rw [hn,if_pos (by omega)])]
   exact .oA [] []
  rw [hgood (by rw [hn,if_neg (by omega)])]
 rotate_left
 focus
  have q1:(op == 1) = false:=by rw [e];rfl
  have q2:(op == 2) = false:=by rw [e];rfl
  have q3:(op == 3) = false:=by rw [e];rfl
  have q4:(op == 4) = true:=by rw [e];rfl
  have q5:(op == 5) = false:=by rw [e];rfl
  have q6:(op == 6) = false:=by rw [e];rfl
  have q7:(op == 7) = false:=by rw [e];rfl
  simp [arC,-List.length_eq_zero_iff,e] at hn
  refine qd ja mixm (by simp) fun e _ hst=>qg ?_
  unfold zr
  simp only [tZ,↓un_u,simprocAttr,Cnd.op,Cnd.col,Cnd.code,Cnd.lo,Cnd.hi,Cnd.kids,q1,q2,q3,q4,q5,q6,q7]
  refine ⟨by kernel_rfl,?_⟩
  refine ⟨fun h=>?_,fun h=>?_⟩
  ·rw [hbad 11 (by decide) (by rw [hn,if_pos];grind)]
   exact .oA [] []
  have hks:ks.length≤2:=by grind
  rw [if_neg (by grind)] at hn
  refine C2.im (fun _=>qW s col 2) (fun _=>rfl) (by rfl) ?_
  simp only [tZ,↓un_u,simprocAttr,Cnd.op,Cnd.col,Cnd.code,Cnd.lo,Cnd.hi,Cnd.kids,q1,q2,q3,q4,q5,q6,q7]
  refine C2.im (fun _=>qW s col 3) (fun _=>rfl) (by rfl) ?_
  simp only [tZ,↓un_u,simprocAttr,Cnd.op,Cnd.col,Cnd.code,Cnd.lo,Cnd.hi,Cnd.kids,q1,q2,q3,q4,q5,q6,q7]
  refine C2.im (fun _=>qW s col 3) (fun _=>rfl) (by rfl) ?_
  by_cases h2:isB s col 3 = false
  ·rw [hbad 7 (by decide) (by rw [hn,if_pos (by grind)])]
   rcases Nat.lt_or_ge col.toNat s.cols.length with hk | hk
   ·simp only [tZ,↓un_u,simprocAttr,Cnd.op,Cnd.col,Cnd.code,Cnd.lo,Cnd.hi,Cnd.kids,q1,q2,q3,q4,q5,q6,q7,h2,qe hk]
    exact .oA [] []
   ·simp only [tZ,↓un_u,simprocAttr,Cnd.op,Cnd.col,Cnd.code,Cnd.lo,Cnd.hi,Cnd.kids,q1,q2,q3,q4,q5,q6,q7,h2,qt2 hk,List.drop_succ_cons,List.drop_nil]
    exact .oA [] []
  rw [Bool.not_eq_false] at h2
  obtain ⟨b1,b2,b3⟩:=zC.1 h2
  obtain ⟨i,hci⟩:∃ i:Nat,col.toNat = i:=⟨_,rfl⟩
  rw [hci] at b3
  try rw [hci] at hn
  have hil:i < s.cols.length:=by omega
  have hat:qh s i = s.cols[i]:=by rw [qh,qk hil]
  have hli:s.cols[i].list.toNat = 0:=by
   have:=hok.list0 hil (by rw [b3];decide)
   rw [hat] at this
   rw [this];rfl
  have hn:E = if s.cols[i].opt = false then 7 else 0:=by
   rw [hn]
   simp [hil,h2]
  simp only [tZ,↓un_u,simprocAttr,Cnd.op,Cnd.col,Cnd.code,Cnd.lo,Cnd.hi,Cnd.kids,q1,q2,q3,q4,q5,q6,q7,h2,hci,qe hil,hli,hgl,Bool.not_eq_true',Bool.not_eq_false']
  refine ⟨by omega,fun h3=>?_,fun h3=>?_⟩
  ·rw [hbad 7 (by decide) (by rw [hn,if_pos h3])]
   exact .oA [] []
  rw [hgood (by rw [hn,if_neg (by rw [h3];simp)])]
  refine ⟨by kernel_rfl,?_⟩
 rotate_left
 focus
  have q1:(op == 1) = false:=by rw [e];rfl
  have q2:(op == 2) = false:=by rw [e];rfl
  have q3:(op == 3) = false:=by rw [e];rfl
  have q4:(op == 4) = false:=by rw [e];rfl
  have q5:(op == 5) = true:=by rw [e];rfl
  have q6:(op == 6) = false:=by rw [e];rfl
  have q7:(op == 7) = false:=by rw [e];rfl
  simp [arC,-List.length_eq_zero_iff,e] at hn
  refine qd ja mixm (by simp) fun e _ hst=>qg ?_
  unfold zr
  simp only [tZ,↓un_u,simprocAttr,Cnd.op,Cnd.col,Cnd.code,Cnd.lo,Cnd.hi,Cnd.kids,q1,q2,q3,q4,q5,q6,q7]
  refine ⟨by kernel_rfl,fun h=>?_,fun h=>?_⟩
  ·rw [hbad 11 (by decide) (by rw [hn,if_pos];grind)]
   exact .oA [] []
  have hks:ks.length≤2:=by grind
  rw [hgood (by rw [hn,if_neg];grind)]
  have hc0:col.toNat = 0:=by grind
  refine C2.im (fun _=>qW s col 2) (fun _=>rfl) (by rfl) ?_
  simp only [tZ,↓un_u,simprocAttr,Cnd.op,Cnd.col,Cnd.code,Cnd.lo,Cnd.hi,Cnd.kids,q1,q2,q3,q4,q5,q6,q7]
  refine C2.im (fun _=>qW s col 3) (fun _=>rfl) (by rfl) ?_
  simp only [tZ,↓un_u,simprocAttr,Cnd.op,Cnd.col,Cnd.code,Cnd.lo,Cnd.hi,Cnd.kids,q1,q2,q3,q4,q5,q6,q7]
  refine C2.im (fun _=>qW s col 3) (fun _=>rfl) (by rfl) ?_
  simp only [tZ,↓un_u,simprocAttr,Cnd.op,Cnd.col,Cnd.code,Cnd.lo,Cnd.hi,Cnd.kids,q1,q2,q3,q4,q5,q6,q7,hc0,hg0,hl0,hgl]
  refine ⟨by kernel_rfl,?_⟩
 rotate_left
 focus
  have q1:(op == 1) = false:=by rw [e];rfl
  have q2:(op == 2) = false:=by rw [e];rfl
  have q3:(op == 3) = false:=by rw [e];rfl
  have q4:(op == 4) = false:=by rw [e];rfl
  have q5:(op == 5) = false:=by rw [e];rfl
  have q6:(op == 6) = true:=by rw [e];rfl
  have q7:(op == 7) = false:=by rw [e];rfl
  simp [arC,-List.length_eq_zero_iff,e] at hn
  refine qd ja mixm (by simp) fun e _ hst=>qg ?_
  unfold zr
  simp only [tZ,↓un_u,simprocAttr,Cnd.op,Cnd.col,Cnd.code,Cnd.lo,Cnd.hi,Cnd.kids,q1,q2,q3,q4,q5,q6,q7]
  refine ⟨by kernel_rfl,fun h=>?_,fun h=>?_⟩
  ·rw [hbad 11 (by decide) (by rw [hn,if_pos];grind)]
   exact .oA [] []
  have hks:ks.length≤2:=by grind
  rw [hgood (by rw [hn,if_neg];grind)]
  have hc0:col.toNat = 0:=by grind
  refine C2.im (fun _=>qW s col 2) (fun _=>rfl) (by rfl) ?_
  simp only [tZ,↓un_u,simprocAttr,Cnd.op,Cnd.col,Cnd.code,Cnd.lo,Cnd.hi,Cnd.kids,q1,q2,q3,q4,q5,q6,q7]
  refine C2.im (fun _=>qW s col 3) (fun _=>rfl) (by rfl) ?_
  simp only [tZ,↓un_u,simprocAttr,Cnd.op,Cnd.col,Cnd.code,Cnd.lo,Cnd.hi,Cnd.kids,q1,q2,q3,q4,q5,q6,q7]
  refine C2.im (fun _=>qW s col 3) (fun _=>rfl) (by rfl) ?_
  simp only [tZ,↓un_u,simprocAttr,Cnd.op,Cnd.col,Cnd.code,Cnd.lo,Cnd.hi,Cnd.kids,q1,q2,q3,q4,q5,q6,q7,hc0,hg0,hl0,hgl]
  refine ⟨by kernel_rfl,?_⟩
 rotate_left
 focus
  have q1:(op == 1) = false:=by rw [e];rfl
  have q2:(op == 2) = false:=by rw [e];rfl
  have q3:(op == 3) = false:=by rw [e];rfl
  have q4:(op == 4) = false:=by rw [e];rfl
  have q5:(op == 5) = false:=by rw [e];rfl
  have q6:(op == 6) = false:=by rw [e];rfl
  have q7:(op == 7) = true:=by rw [e];rfl
  simp [arC,-List.length_eq_zero_iff,e] at hn
  refine qd ja mixm (by simp) fun e _ hst=>qg ?_
  unfold zr
  simp only [tZ,↓un_u,simprocAttr,Cnd.op,Cnd.col,Cnd.code,Cnd.lo,Cnd.hi,Cnd.kids,q1,q2,q3,q4,q5,q6,q7]
  refine ⟨by kernel_rfl,fun h=>?_,fun h=>?_⟩
  ·rw [hbad 11 (by decide) (by rw [hn,if_pos];grind)]
   exact .oA [] []
  have hks:ks.length≤2:=by grind
  rw [hgood (by rw [hn,if_neg];grind)]
  have hc0:col.toNat = 0:=by grind
  refine C2.im (fun _=>qW s col 2) (fun _=>rfl) (by rfl) ?_
  simp only [tZ,↓un_u,simprocAttr,Cnd.op,Cnd.col,Cnd.code,Cnd.lo,Cnd.hi,Cnd.kids,q1,q2,q3,q4,q5,q6,q7]
  refine C2.im (fun _=>qW s col 3) (fun _=>rfl) (by rfl) ?_
  simp only [tZ,↓un_u,simprocAttr,Cnd.op,Cnd.col,Cnd.code,Cnd.lo,Cnd.hi,Cnd.kids,q1,q2,q3,q4,q5,q6,q7]
  refine C2.im (fun _=>qW s col 3) (fun _=>rfl) (by rfl) ?_
  simp only [tZ,↓un_u,simprocAttr,Cnd.op,Cnd.col,Cnd.code,Cnd.lo,Cnd.hi,Cnd.kids,q1,q2,q3,q4,q5,q6,q7,hc0,hg0,hl0,hgl]
  refine ⟨by kernel_rfl,?_⟩
 rotate_left
 focus
  have q1:(op == 1) = false:=beq_eq_false_iff_ne.2 (by omega)
  have q2:(op == 2) = false:=beq_eq_false_iff_ne.2 (by omega)
  have q3:(op == 3) = false:=beq_eq_false_iff_ne.2 (by omega)
  have q4:(op == 4) = false:=beq_eq_false_iff_ne.2 (by omega)
  have q5:(op == 5) = false:=beq_eq_false_iff_ne.2 (by omega)
  have q6:(op == 6) = false:=beq_eq_false_iff_ne.2 (by omega)
  have q7:(op == 7) = false:=beq_eq_false_iff_ne.2 (by omega)
  rw [hbad 4 (by decide) (by rw [hn,if_pos e])]
  refine qd ja mixm (by simp) fun e _ hst=>qg ?_
  unfold zr
  simp only [tZ,↓un_u,simprocAttr,Cnd.op,Cnd.col,Cnd.code,Cnd.lo,Cnd.hi,Cnd.kids,q1,q2,q3,q4,q5,q6,q7]
  refine ⟨by kernel_rfl,?_⟩
  exact .oA [] []
 all_goals (
  refine qy mixm (α:=Nat) [7,77,121,147,167] (fun i=>i≤ks.length∧kV s (ks.take i) = 0) (fun i=>[(7,vI i)]) (fun i=>[(4096,.arr 2 [schT s] false),(4100,.arr 6 [.agg [vI op,vI col,vI code,vI lo,vI hi,vCs ks]] false)]) (fun i=>ks.length - i) 0 ⟨by omega,by rw [List.take_zero,kV]⟩ ?_ fun i hi2=>?_
  ·exact .oA [(4096,some 4096),(4100,some 4100)] []
  obtain ⟨i1,i2⟩:=hi2
  refine sD ?_
  refine ⟨fun h5=>?_,fun h5=>?_⟩
  ·have hi2:i < ks.length:=by omega
   have hwi:=qj (i:=i) (by omega)
   simp only [tZ,↓un_u,simprocAttr,Int.toNat_natCast,qe hi2,zq]
   refine ⟨by omega,?_⟩
   refine C1.im (ih _ (List.getElem_mem hi2)) (by rfl) (by rfl) ?_
   simp only [tZ,↓un_u,simprocAttr,hwi,bne_iff_ne,bne_eq_false_iff_eq]
   refine ⟨by kernel_rfl,fun h6=>?_,fun h6=>?_⟩
   ·rw [qb1 hi2 i2 h6]
    exact .oA [] []
   ·refine ⟨i + 1,⟨by omega,by rw [qO hi2];exact qn2 i2 h6⟩,by omega,?_⟩
    exact .oA [(4096,some 4096),(4100,some 4100)] []
  ·have hil:i = ks.length:=by omega
   subst hil
   rw [List.take_length] at i2
   rw [i2]
   exact .oA [] []
  )
end Go.Proofs
namespace Go.Proofs
open Go Go.TL
set_option maxHeartbeats 4000000
theorem qQ4 (s:Sch) (hs:JI s) (hL:0 < s.lists.length) (c:Cnd):Spc Tryz.prog Kd [schT s,cnT c] [] (vI (chkC s c)) []:=by
 refine qd qD4 mixm (by simp) fun e _ hst=>qg ?_
 unfold ZU
 refine sW ?_
 refine C1.im (qh3 s hs) (by rfl) (by rfl) ?_
 simp only [tZ,↓un_u,simprocAttr,bne_iff_ne,bne_eq_false_iff_eq]
 refine ⟨fun h=>?_,fun h=>?_⟩
 ·rw [chkC,if_pos h]
  exact .oA [] []
 have hok:=za h
 refine C1.im (qQ2 c 41 (by omega) (by omega)) (by rfl) (by rfl) ?_
 refine sD ?_
 refine ⟨fun h2=>?_,fun h2=>?_⟩
 ·rw [chkC,if_neg (by rw [h];simp),if_pos h2]
  exact .oA [] []
 refine C1.im (qQ3 c 41 (by omega) (by omega) (by omega)) (by rfl) (by rfl) ?_
 refine sD ?_
 refine ⟨fun h3=>?_,fun h3=>?_⟩
 ·rw [chkC,if_neg (by rw [h];simp),if_neg h2,if_pos (by omega)]
  exact .oA [] []
 rw [chkC,if_neg (by rw [h];simp),if_neg h2,if_neg (by omega)]
 refine C1.im (zb5 s hok hL c) (by rfl) (by rfl) ?_
 refine sW ?_
 exact .oA [] []
theorem qb2 {s:Sch} {c:Cnd} (h:chkC s c = 0):schE s = 0∧cntC c 41 < 41∧depC c≤10∧nodE s c = 0:=by
 unfold chkC at h
 split at h
 ·rename_i h1;exact absurd h h1
 rename_i h1
 split at h
 ·cases h
 rename_i h2
 split at h
 ·cases h
 rename_i h3
 exact ⟨Classical.byContradiction h1,by omega,by omega,h⟩
theorem qp4 (s:Sch) (hok:SchOk s) (c:Cnd) (hc:NdOk s c) (v:Int):Spc Tryz.prog ZH [schT s,cnT c,vI v] [] (vI (jD s c v)) []:=by
 have hn0:=hok.nl
 have hn1:=hok.nc
 have hA:jD s c v = if c.op = 2 then tf (WE (qE s c.col.toNat) v c.code)
 else if c.op = 3 then (if v = kO then 0 else tf (decide (c.lo≤v) && decide (v≤c.hi)))
 else if c.op = 4 then tf (v == kO) else -1:=rfl
 rw [hA]
 by_cases h2:c.op = 2
 ·obtain ⟨b,b4,b5⟩:=hc.under h2
  obtain ⟨b1,b2,b3⟩:=zC.1 b
  obtain ⟨i,hci⟩:=Int.eq_ofNat_of_zero_le b1
  rw [hci] at b2 b5
  rw [hci,Int.toNat_natCast] at b3
  rw [Int.toNat_natCast] at b5
  have hil:i < s.cols.length:=by omega
  have hat:qh s i = s.cols[i]:=by rw [qh,qk hil]
  have hcd:=hok.cdl hil b3
  have hcd2:=(qY (hok.cs i hil)).2.2.2.1 b3
  have hcl:qE s i = s.lists.getD s.cols[i].list.toNat default:=by rw [qE,hat]
  rw [hat] at hcd hcd2
  rw [if_pos h2,hci,Int.toNat_natCast]
  rw [hcl,qk hcd.1] at hcd ⊢
  obtain ⟨_,d5,d6⟩:=zb hcd.2
  have q:(c.op == 2) = true:=beq_iff_eq.2 h2
  refine qd QK mixm (by simp) fun e _ hst=>qg ?_
  unfold kv
  simp only [tZ,↓un_u,simprocAttr,q,hci,Int.toNat_natCast,qe hil,qe hcd.1]
  refine ⟨by omega,by omega,?_⟩
  refine C1.im (qO7 _ v c.code (by omega)) (by rfl) (by rfl) ?_
  refine sW ?_
  refine ⟨by kernel_rfl,fun h=>?_,fun h=>?_⟩
  ·rw [h]
   exact .oA [] []
  ·rw [h]
   exact .oA [] []
 have q:(c.op == 2) = false:=beq_eq_false_iff_ne.2 h2
 rw [if_neg h2]
 by_cases h3:c.op = 3
 ·have q3:(c.op == 3) = true:=beq_iff_eq.2 h3
  rw [if_pos h3]
  refine qd QK mixm (by simp) fun e _ hst=>qg ?_
  unfold kv
  simp only [tZ,↓un_u,simprocAttr,q,q3,beq_iff_eq,beq_eq_false_iff_ne]
  rw [show (-1099511627776:Int) = kO from rfl]
  refine ⟨fun h=>?_,fun h=>?_⟩
  ·rw [if_pos h]
   exact .oA [] []
  ·rw [if_neg h]
   refine ⟨fun h=>?_,fun h=>?_⟩
   ·rw [h]
    exact .oA [] []
   ·rw [h]
    exact .oA [] []
 have q3:(c.op == 3) = false:=beq_eq_false_iff_ne.2 h3
 rw [if_neg h3]
 by_cases h4:c.op = 4
 ·have q4:(c.op == 4) = true:=beq_iff_eq.2 h4
  rw [if_pos h4]
  refine qd QK mixm (by simp) fun e _ hst=>qg ?_
  unfold kv
  simp only [tZ,↓un_u,simprocAttr,q,q3,q4]
  rw [show (-1099511627776:Int) = kO from rfl]
  refine ⟨fun h=>?_,fun h=>?_⟩
  ·rw [h]
   exact .oA [] []
  ·rw [h]
   exact .oA [] []
 have q4:(c.op == 4) = false:=beq_eq_false_iff_ne.2 h4
 rw [if_neg h4]
 refine qd QK mixm (by simp) fun e _ hst=>qg ?_
 unfold kv
 simp only [tZ,↓un_u,simprocAttr,q,q3,q4]
 exact .oA [] []
theorem qn3:∀ c m,1≤m→cntC c m < m→((atsC c).length:Int)≤cntC c m:=by
 refine Cnd.ind' fun c ih m hm h=>?_
 have hc:=qp2 c m hm
 rw [qa7]
 split
 ·simp;omega
 ·rw [Jq] at h ⊢
  have key:∀ l:List Cnd,(∀ k∈l,k∈c.kids)→∀ n,1≤n→n≤m→kh l m n < m→n + (yY l).length≤kh l m n:=by
   intro l
   induction l with
   | nil=>intro _ n h1 h2 _;rw [kh,yY];simp
   | cons k r ihl=>
     intro hk n h1 h2 h3
     rw [kh] at h3 ⊢
     rw [yY,List.length_append]
     split at h3
     ·rename_i h4
      rw [if_pos h4]
      have c1:=qp2 k (m - n) (by omega)
      have c2:=qP5 r m (n + cntC k (m - n)) (by omega)
      have c3:=ih k (hk k (by simp)) (m - n) (by omega) (by omega)
      have c4:=ihl (fun x hx=>hk x (List.mem_cons_of_mem _ hx)) (n + cntC k (m - n)) (by omega) (by omega) h3
      omega
     ·omega
  have:=key c.kids (fun k hk=>hk) 1 (by omega) hm h
  omega
theorem yj:∀ (l:List Cnd) (i:Nat),(yY (l.take i)).length≤(yY l).length
 | [],i=>by simp
 | x :: r,0=>by simp [yY]
 | x :: r,i + 1=>by rw [List.take_succ_cons,yY,yY,List.length_append,List.length_append];have:=yj r i;omega
theorem zb6 (l:List Cnd):ImXs 6 (l.map cndT):=qD zV6 l
theorem qQ5 {st:Sto} {ρ:Ren} {B:List Nat} (l:List Cnd):ltXs st ρ B 6 (l.map cndT) (l.map cndT):=yU (zb6 l)
theorem qQ6:∀ (c:Cnd) (m:Int),1≤m→m≤1000→cntC c m < m→Spc Tryz.prog QE [cnT c] [] (vCs (atsC c)) []:=by
 refine Cnd.ind' fun c ih m hm hm2 hc=>?_
 have hal:=qn3 c m hm hc
 rw [Jq] at hc hal
 obtain ⟨hk1,hk2⟩:=qi2 (by omega) hc
 have hi:isAt c = ((c.op == 2) || (c.op == 3) || (c.op == 4)):=rfl
 refine qd qD6 mixm (by simp) fun e _ hst=>qg ?_
 unfold ZV
 refine sW ?_
 rw [← hi]
 refine ⟨fun h=>?_,fun h=>?_⟩
 ·rw [qa7,if_pos h]
  show Qc [] _ _ (.sl 6 [cndT c]) []
  rw [zq]
  exact .oA [] [12292]
 ·rw [qa7,if_neg (by rw [h];simp)] at hal ⊢
  refine qy mixm (α:=Nat) [3,4,17] (fun i=>i≤c.kids.length) (fun i=>[(3,.asl 1 (yY (c.kids.take i)).length),(4,vI i)]) (fun i=>[(4096,.arr 6 [cnT c] false),(1,.arr 6 ((yY (c.kids.take i)).map cndT) false)]) (fun i=>c.kids.length - i) 0 (by omega) ?_ fun i hi2=>?_
  ·exact .oA [(4096,some 4096),(1,none)] []
  have htl:=yj c.kids i
  refine sD ?_
  refine ⟨fun h5=>?_,fun h5=>?_⟩
  ·have hi2:i < c.kids.length:=by omega
   have hwi:=qj (i:=i) (by omega)
   obtain ⟨m',a1,a2,a3⟩:=hk2 _ (List.getElem_mem hi2)
   have htl2:=yj c.kids (i + 1)
   rw [qO hi2,JJ,List.length_append] at htl2
   simp only [tZ,↓un_u,simprocAttr,Int.toNat_natCast,qe hi2,zq]
   refine ⟨by omega,?_⟩
   refine C1.im (ih _ (List.getElem_mem hi2) m' a1 (by omega) a3) (by rfl) (by rfl) ?_
   simp only [tZ,↓un_u,simprocAttr,hwi]
   refine ⟨by omega,i + 1,by omega,by omega,?_⟩
   rw [qO hi2,JJ,List.map_append]
   refine .of [(4096,some 4096),(1,some 1)] [] rfl (by first | rfl | (rw [hst];rfl)) ?_ ?_
   all_goals (try simp only [tL,simprocAttr,List.map_append,List.map_cons,List.map_nil,List.cons_append,List.nil_append,List.append_assoc])
   all_goals (try (repeat' (first | exact qZ | (apply zy;intro _;exact ⟨rfl,rfl⟩) | (apply qD;intro _;exact ⟨rfl,rfl⟩) | with_reducible apply qR | with_reducible refine qT ⟨rfl,rfl⟩ ?_ | exact ze | with_reducible apply qH | with_reducible refine qM ⟨rfl,rfl,?_⟩ ?_ | with_reducible apply And.intro | exact qJ rfl | exact qJ (by assumption) | (refine ⟨⟨?_,rfl,?_,rfl,?_⟩,trivial⟩ <;> first | (simp;done) | (apply qD;intro _;exact ⟨rfl,rfl⟩)) | trivial | rfl | (rw [qj (by omega)]) | omega)))
   all_goals first | exact qQ5 _ | exact zb6 _
  ·have hil:i = c.kids.length:=by omega
   subst hil
   rw [List.take_length]
   refine .of [] [1] rfl (by first | rfl | (rw [hst];rfl)) ?_ ?_
   all_goals (try simp only [tL,simprocAttr,List.map_append,List.map_cons,List.map_nil,List.cons_append,List.nil_append,List.append_assoc])
   all_goals (try (repeat' (first | exact qZ | (apply zy;intro _;exact ⟨rfl,rfl⟩) | (apply qD;intro _;exact ⟨rfl,rfl⟩) | with_reducible apply qR | with_reducible refine qT ⟨rfl,rfl⟩ ?_ | exact ze | with_reducible apply qH | with_reducible refine qM ⟨rfl,rfl,?_⟩ ?_ | with_reducible apply And.intro | exact qJ rfl | exact qJ (by assumption) | (refine ⟨⟨?_,rfl,?_,rfl,?_⟩,trivial⟩ <;> first | (simp;done) | (apply qD;intro _;exact ⟨rfl,rfl⟩)) | trivial | rfl | (rw [qj (by omega)]) | omega)))
   all_goals first | exact qQ5 _ | exact zb6 _
end Go.Proofs
namespace Go.Proofs
open Go Go.TL
set_option maxRecDepth 4000
set_option maxHeartbeats 8000000
theorem qn4:∀ (c:Cnd) (m:Int),0≤m→m≤1000→Spc Tryz.prog kr [cnT c,vI m] [] (vI (cntC c (m + 1))) []:=by
 refine Cnd.ind' fun c ih m hm hm2=>?_
 rw [Jq]
 refine qd qg4 mixm (by simp) fun e _ hst=>qg ?_
 unfold yc
 refine sW ?_
 refine qy mixm (α:=Nat×Int) [5,11] (fun y=>y.1≤c.kids.length∧kh c.kids (m + 1) 1 = kh (c.kids.drop y.1) (m + 1) y.2∧y.2≤m + 1∧y.1 + 1≤y.2) (fun y=>[(5,vI y.2),(11,vI y.1)]) (fun y=>[]) (fun y=>c.kids.length - y.1) (0,1) ⟨by simp,rfl,by dsimp only;omega,by simp⟩ ?_ fun y hy=>?_
 ·exact .oA [] []
 obtain ⟨i,n⟩:=y
 obtain ⟨y1,y2,y3,y4⟩:=hy
 dsimp only at y1 y2 y3 y4
 rw [y2]
 refine sD ?_
 refine ⟨fun h=>?_,fun h=>?_⟩
 ·have hi:i < c.kids.length:=by omega
  have hwi:=qj (i:=i) (by omega)
  rw [zh2 hi,kh]
  simp only [tZ,↓un_u,simprocAttr,Int.toNat_natCast,qe hi,zq,tD]
  refine ⟨by omega,fun h2=>?_,fun h2=>?_⟩
  ·rw [if_neg (by omega)]
   exact .oA [] []
  have hw:IntKind.i64.wrap (m - n) = m - n:=IntWalk.i64_in _ (by omega)
  have hc:=qp2 c.kids[i] (m - n + 1) (by omega)
  have e1:m + 1 - n = m - n + 1:=by omega
  have hw2:IntKind.i64.wrap (n + cntC c.kids[i] (m - n + 1)) = n + cntC c.kids[i] (m - n + 1):=IntWalk.i64_in _ (by omega)
  rw [if_pos (by omega),e1]
  simp only [tZ,↓un_u,simprocAttr,hw]
  refine C1.im (ih _ (List.getElem_mem hi) (m - n) (by omega) (by omega)) (by rfl) (by rfl) ?_
  simp only [tZ,↓un_u,simprocAttr,hw2,hwi]
  refine ⟨(i + 1,n + cntC c.kids[i] (m - n + 1)),⟨by dsimp only;omega,rfl,by dsimp only;omega,by dsimp only;omega⟩,by dsimp only;omega,?_⟩
  exact .oA [] []
 ·rw [List.drop_of_length_le (by omega),kh]
  exact .oA [] []
theorem qs0:∀ (c:Cnd) (m:Int),1≤m→m≤1000→cntC c m < m→Spc Tryz.prog kZ [cnT c] [] (vI (depC c)) []:=by
 refine Cnd.ind' fun c ih m hm hm2 hc=>?_
 have hd:=zM8 c m hm hc
 rw [Jq] at hc hd
 obtain ⟨hk1,hk2⟩:=qi2 (by omega) hc
 rw [qm5] at hd ⊢
 refine qd ql6 mixm (by simp) fun e _ hst=>qg ?_
 unfold yD
 refine sW ?_
 refine qy mixm (α:=Nat) [3,9] (fun i=>i≤c.kids.length) (fun i=>[(3,vI (js (c.kids.take i))),(9,vI i)]) (fun i=>[]) (fun i=>c.kids.length - i) 0 (by omega) ?_ fun i hi=>?_
 ·refine .of [] [] rfl (by first | rfl | (rw [hst];rfl)) ?_ ?_
  all_goals (try simp only [tL,simprocAttr,List.map_append,List.map_cons,List.map_nil,List.cons_append,List.nil_append,List.take_zero,js])
  all_goals (try (repeat' (first | exact qZ | (apply zy;intro _;exact ⟨rfl,rfl⟩) | (apply qD;intro _;exact ⟨rfl,rfl⟩) | with_reducible apply qR | with_reducible refine qT ⟨rfl,rfl⟩ ?_ | exact ze | with_reducible apply qH | with_reducible refine qM ⟨rfl,rfl,?_⟩ ?_ | with_reducible apply And.intro | exact qJ rfl | exact qJ (by assumption) | (refine ⟨⟨?_,rfl,?_,rfl,?_⟩,trivial⟩ <;> first | (simp;done) | (apply qD;intro _;exact ⟨rfl,rfl⟩)) | trivial | rfl | (rw [qj (by omega)]) | omega)))
 have hdt:=qn1 c.kids i
 refine sD ?_
 refine ⟨fun h=>?_,fun h=>?_⟩
 ·have hi2:i < c.kids.length:=by omega
  have hwi:=qj (i:=i) (by omega)
  have hs:js (c.kids.take (i + 1)) = max (js (c.kids.take i)) (depC c.kids[i]):=by rw [qO hi2,qn0]
  obtain ⟨m',a1,a2,a3⟩:=hk2 _ (List.getElem_mem hi2)
  simp only [tZ,↓un_u,simprocAttr,Int.toNat_natCast,qe hi2,zq]
  refine ⟨by omega,?_⟩
  refine C1.im (ih _ (List.getElem_mem hi2) m' a1 (by omega) a3) (by rfl) (by rfl) ?_
  have hmx:maxI (js (c.kids.take i):Int) (depC c.kids[i]) = (js (c.kids.take (i + 1)):Int):=by rw [hs];unfold maxI;omega
  simp only [tZ,↓un_u,simprocAttr,hwi,hmx]
  refine ⟨i + 1,by omega,by omega,?_⟩
  exact .oA [] []
 ·have hil:i = c.kids.length:=by omega
  subst hil
  rw [List.take_length] at hdt ⊢
  have hw:=qj (i:=js c.kids) (by omega)
  simp only [tZ,↓un_u,simprocAttr,hw]
  exact .oA [] []
theorem qs1 (op:Int):Spc Tryz.prog Qi [vI op] [] (vI (arC op)) []:=by
 refine qd qm2 mixm (by simp) fun e _ hst=>qg ?_
 unfold yG
 simp only [tZ,↓un_u,simprocAttr,Cnd.op,Cnd.col,Cnd.code,Cnd.lo,Cnd.hi,Cnd.kids]
 by_cases h5:op = 5
 ·subst h5
  refine sW ?_
  exact .oA [] []
 by_cases h6:op = 6
 ·subst h6
  refine sW ?_
  exact .oA [] []
 by_cases h7:op = 7
 ·subst h7
  refine sW ?_
  exact .oA [] []
 have e:arC op = 0:=by rw [arC,if_neg (by omega),if_neg h7]
 rw [e]
 simp only [tZ,↓un_u,simprocAttr,beq_eq_false_iff_ne.2 h5,beq_eq_false_iff_ne.2 h6,beq_eq_false_iff_ne.2 h7]
 exact .oA [] []
def unuC (c:Cnd):Bool:=if ((!isAt c && (c.col != 0)) || ((c.op != 2) && (c.code != 0))) = true then false else (c.op == 3) || ((c.lo == 0) && (c.hi == 0))
theorem jg7 {c:Cnd}:unuC c = false↔(c.op≠2∧c.op≠3∧c.op≠4∧c.col≠0)∨(c.op≠2∧c.code≠0)∨(c.op≠3∧(c.lo≠0∨c.hi≠0)):=by
 unfold unuC isAt
 grind
theorem qi3 (c:Cnd):Spc Tryz.prog wQ [cnT c] [] (vB (unuC c)) []:=by
 refine qd qa3 mixm (by simp) fun e _ hst=>qg ?_
 unfold ww
 refine sW ?_
 have hi:isAt c = ((c.op == 2) || (c.op == 3) || (c.op == 4)):=rfl
 rw [← hi]
 unfold unuC
 cases h:(!isAt c && (c.col != 0))
 ·simp only [tZ,↓un_u,simprocAttr,h]
  cases h2:((c.op != 2) && (c.code != 0))
  ·simp only [tZ,↓un_u,simprocAttr,h2]
   exact .oA [] []
  ·simp only [tZ,↓un_u,simprocAttr,h2]
   exact .oA [] []
 ·simp only [tZ,↓un_u,simprocAttr,h]
  exact .oA [] []
theorem Yr (s:Sch) (hok:SchOk s) (c:Cnd):Spc Tryz.prog kH [schT s,cnT c] [] (vI (ndE s c)) []:=by
 have hn0:=hok.nl
 have hn1:=hok.nc
 have hn:ndE s c = if c.op < 1∨7 < c.op then 4
 else if c.kids.length≠arC c.op∨(c.op≠2∧c.op≠3∧c.op≠4∧c.col≠0)∨(c.op≠2∧c.code≠0)∨(c.op≠3∧(c.lo≠0∨c.hi≠0)) then 11
 else if (c.op = 2∧isB s c.col 2 = false)∨(c.op = 3∧isB s c.col 3 = false)∨(c.op = 4∧(isB s c.col 3 = false∨(qh s c.col.toNat).opt = false)) then 7
 else if c.op = 2∧(c.code < 0∨c.code≥(qE s c.col.toNat).codes.length) then 6
 else if c.op = 3∧(c.lo < -1000000∨c.hi > 1000000∨c.lo > c.hi) then 2 else 0:=rfl
 have hu:=@jg7 c
 generalize ndE s c = E at hn ⊢
 refine qd WB mixm (by simp) fun e _ hst=>qg ?_
 unfold kf
 refine sD ?_
 refine ⟨fun h=>?_,fun h=>?_⟩
 ·rw [if_pos (by omega)] at hn
  rw [hn]
  exact .oA [] []
 rw [if_neg (by omega)] at hn
 refine C1.im (qs1 c.op) (by rfl) (by rfl) ?_
 refine sW ?_
 refine C2.im (fun _=>qi3 c) (fun _=>rfl) (by rfl) ?_
 simp only [tZ,↓un_u,simprocAttr,bne_iff_ne,bne_eq_false_iff_eq,Bool.not_eq_true',Bool.not_eq_false']
 repeat (first | refine ⟨by omega,?_⟩ | refine ⟨by kernel_rfl,?_⟩)
 refine ⟨fun h2=>?_,fun h2=>?_⟩
 ·rw [if_pos (by grind)] at hn
  rw [hn]
  exact .oA [] []
 rw [if_neg (by grind)] at hn
 by_cases hat:c.op≠2∧c.op≠3∧c.op≠4
 ·rw [if_neg (by omega),if_neg (by omega),if_neg (by omega)] at hn
  rw [hn]
  simp only [tZ,↓un_u,simprocAttr,bne_iff_ne.2 hat.1,bne_iff_ne.2 hat.2.1,bne_iff_ne.2 hat.2.2]
  exact .oA [] []
 have e1:((c.op != 2) && (c.op != 3) && (c.op != 4)) = false:=by
  cases e:((c.op != 2) && (c.op != 3) && (c.op != 4)) with
  | false=>rfl
  | true=>exact absurd (by simpa [and_assoc] using e) hat
 simp only [tZ,↓un_u,simprocAttr,e1,tD]
 refine ⟨fun h3=>?_,fun h3=>?_⟩
 ·have b2:isB s c.col 2 = false:=by
   cases e:isB s c.col 2 with
   | false=>rfl
   | true=>have:=zC.1 e;omega
  have b3:isB s c.col 3 = false:=by
   cases e:isB s c.col 3 with
   | false=>rfl
   | true=>have:=zC.1 e;omega
  rw [b2,b3,if_pos (by grind)] at hn
  rw [hn]
  exact .oA [] []
 obtain ⟨i,hci⟩:=Int.eq_ofNat_of_zero_le (show 0≤c.col by omega)
 have hil:i < s.cols.length:=by omega
 have hat2:qh s i = s.cols[i]:=by rw [qh,qk hil]
 have hcd:=fun e=>hok.cdl hil e
 have hcd2:=(qY (hok.cs i hil)).2.2.2.1
 have hcl:qE s i = s.lists.getD s.cols[i].list.toNat default:=by rw [qE,hat2]
 have hB:∀ k,isB s c.col k = (s.cols[i].kind == k):=fun k=>by
  rw [isB,hci,Int.toNat_natCast,hat2,decide_eq_true (by omega),decide_eq_true (by omega)];rfl
 rw [hB,hB,hci,Int.toNat_natCast,hcl,hat2] at hn
 rw [hat2,hcl] at hcd
 rw [hat2] at hcd2
 simp only [tZ,↓un_u,simprocAttr,hci,Int.toNat_natCast,qe hil]
 generalize s.cols[i] = x at hn hcd hcd2 ⊢
 simp only [tZ,↓un_u,simprocAttr,beq_iff_eq,beq_eq_false_iff_ne,bne_iff_ne,bne_eq_false_iff_eq]
 refine ⟨by omega,fun h4=>⟨fun h5=>?_,fun h5=>?_⟩,fun h4=>⟨fun h5=>⟨fun h6=>?_,fun h6=>?_⟩,fun h5=>?_⟩⟩
 ·rw [if_pos (by grind)] at hn
  rw [hn]
  exact .oA [] []
 ·rw [if_neg (by grind)] at hn
  obtain ⟨d1,d2⟩:=hcd h5
  obtain ⟨d3,d4⟩:=hcd2 h5
  rw [qk d1] at hn
  simp only [tZ,↓un_u,simprocAttr,qe d1,tD]
  generalize s.lists[x.list.toNat] = l at hn
  repeat (first | refine ⟨by omega,?_⟩ | refine ⟨by kernel_rfl,?_⟩)
  refine ⟨fun h6=>?_,fun h6=>?_⟩
  ·rw [if_pos (by grind)] at hn
   rw [hn]
   exact .oA [] []
  ·rw [if_neg (by grind),if_neg (by grind)] at hn
   rw [hn]
   exact .oA [] []
 ·rw [if_pos (by grind)] at hn
  rw [hn]
  exact .oA [] []
 ·rw [if_neg (by grind),if_neg (by grind)] at hn
  refine sD ?_
  refine ⟨fun h7=>?_,fun h7=>?_⟩
  ·rw [if_pos (by grind)] at hn
   rw [hn]
   exact .oA [] []
  ·rw [if_neg (by grind)] at hn
   rw [hn]
   exact .oA [] []
 ·refine ⟨fun h6=>?_,fun h6=>by omega⟩
  refine ⟨fun h7=>?_,fun h7=>?_⟩
  ·rw [if_pos (by grind)] at hn
   rw [hn]
   exact .oA [] []
  ·rw [if_neg (by grind),if_neg (by grind),if_neg (by grind)] at hn
   rw [hn]
   exact .oA [] []
theorem jm4 (op:Int):arC op≤2:=by
 unfold arC
 split
 ·omega
 ·split <;> omega
theorem Ys (s:Sch) (hok:SchOk s):∀ (c:Cnd),Spc Tryz.prog jg [schT s,cnT c] [] (vI (nodE s c)) []:=by
 refine Cnd.ind' fun c ih=>?_
 have hN:=qP4 s c
 generalize nodE s c = N at hN ⊢
 refine qd Wx mixm (by simp) fun e _ hst=>qg ?_
 unfold ka
 refine sW ?_
 refine C1.im (Yr s hok c) (by rfl) (by rfl) ?_
 simp only [tZ,↓un_u,simprocAttr,bne_iff_ne,bne_eq_false_iff_eq]
 refine ⟨fun h=>?_,fun h=>?_⟩
 ·rw [hN,if_pos h]
  exact .oA [] []
 rw [if_neg (by rw [h];simp)] at hN
 have hnk:=(jb9 h).nk
 have har:=jm4 c.op
 rw [hN]
 refine qy mixm (α:=Nat) [18] (fun i=>i≤c.kids.length∧(kV s (c.kids.take i) = 0)) (fun i=>[(18,vI i)]) (fun i=>[(4096,.arr 2 [schT s] false)]) (fun i=>c.kids.length - i) 0 ⟨by omega,?_⟩ ?_ fun i hi=>?_
 ·rfl
 ·exact .oA [(4096,some 4096)] []
 simp only [tZ,↓un_u,simprocAttr,decide_eq_true_eq,decide_eq_false_iff_not]
 refine ⟨fun h=>?_,fun h=>?_⟩
 ·have hi2:i < c.kids.length:=by omega
  have hi2:i < c.kids.length:=by omega
  have hwi:=qj (i:=i) (by omega)
  simp only [tZ,↓un_u,simprocAttr,Int.toNat_natCast,qe hi2,hwi,zq]
  refine ⟨by omega,?_⟩
  refine C1.im (ih _ (List.getElem_mem hi2)) (by rfl) (by rfl) ?_
  simp only [tZ,↓un_u,simprocAttr,bne_iff_ne,bne_eq_false_iff_eq]
  refine ⟨fun h6=>?_,fun h6=>?_⟩
  ·rw [qb1 hi2 hi.2 h6]
   exact .oA [] []
  ·refine ⟨i + 1,⟨by omega,by rw [qO hi2];exact qn2 hi.2 h6⟩,by omega,?_⟩
   exact .oA [(4096,some 4096)] []
 ·have hi2:i = c.kids.length:=by omega
  subst hi2
  rw [List.take_of_length_le (by omega)] at hi
  rw [hi.2]
  exact .oA [] []
theorem yH (s:Sch) (hs:JI s) (c:Cnd):Spc Tryz.prog jk [schT s,cnT c] [] (vI (chkC s c)) []:=by
 refine qd qg0 mixm (by simp) fun e _ hst=>qg ?_
 unfold ya
 refine sW ?_
 refine C1.im (kU s hs.2.1 hs.1) (by rfl) (by rfl) ?_
 simp only [tZ,↓un_u,simprocAttr,bne_iff_ne,bne_eq_false_iff_eq]
 refine ⟨fun h=>?_,fun h=>?_⟩
 ·rw [chkC,if_pos h]
  exact .oA [] []
 have hok:=za h
 refine C1.im (qn4 c 40 (by omega) (by omega)) (by rfl) (by rfl) ?_
 rw [show (40:Int) + 1 = 41 from rfl]
 refine sD ?_
 refine ⟨fun h2=>?_,fun h2=>?_⟩
 ·rw [chkC,if_neg (by rw [h];simp),if_pos h2]
  exact .oA [] []
 refine C1.im (qs0 c 41 (by omega) (by omega) (by omega)) (by rfl) (by rfl) ?_
 refine sD ?_
 refine ⟨fun h3=>?_,fun h3=>?_⟩
 ·rw [chkC,if_neg (by rw [h];simp),if_neg h2,if_pos (by omega)]
  exact .oA [] []
 rw [chkC,if_neg (by rw [h];simp),if_neg h2,if_neg (by omega)]
 refine C1.im (Ys s hok c) (by rfl) (by rfl) ?_
 refine sW ?_
 exact .oA [] []
theorem yI (b:Bool):Spc Tryz.prog jm [vB b] [] (vI (tf b)) []:=by
 refine qd qg6 mixm (by simp) fun e _ hst=>qg ?_
 unfold yd
 refine sW ?_
 cases b
 ·refine sW ?_
  exact .oA [] []
 ·refine sW ?_
  exact .oA [] []
theorem KE (s:Sch) (hok:SchOk s) (c:Cnd) (hc:NdOk s c) (ha:isAt c = true) (v:Int):Spc Tryz.prog jE [schT s,cnT c,vI v] [] (vI (jD s c v)) []:=by
 have hn0:=hok.nl
 have hn1:=hok.nc
 have hA:jD s c v = if c.op = 2 then tf (WE (qE s c.col.toNat) v c.code)
 else if c.op = 3 then (if v = kO then 0 else tf (decide (c.lo≤v) && decide (v≤c.hi)))
 else if c.op = 4 then tf (v == kO) else -1:=rfl
 rw [hA]
 by_cases h2:c.op = 2
 ·obtain ⟨b,b4,b5⟩:=hc.under h2
  obtain ⟨b1,b2,b3⟩:=zC.1 b
  obtain ⟨i,hci⟩:=Int.eq_ofNat_of_zero_le b1
  rw [hci] at b2 b5
  rw [hci,Int.toNat_natCast] at b3
  rw [Int.toNat_natCast] at b5
  have hil:i < s.cols.length:=by omega
  have hat:qh s i = s.cols[i]:=by rw [qh,qk hil]
  have hcd:=hok.cdl hil b3
  have hcd2:=(qY (hok.cs i hil)).2.2.2.1 b3
  have hcl:qE s i = s.lists.getD s.cols[i].list.toNat default:=by rw [qE,hat]
  rw [hat] at hcd hcd2
  rw [if_pos h2,hci,Int.toNat_natCast]
  rw [hcl,qk hcd.1] at hcd ⊢
  have q:(c.op == 2) = true:=beq_iff_eq.2 h2
  refine qd yz mixm (by simp) fun e _ hst=>qg ?_
  unfold jp
  simp only [tZ,↓un_u,simprocAttr,q,hci,Int.toNat_natCast,qe hil,qe hcd.1]
  refine ⟨by omega,by omega,?_⟩
  refine C1.im (qP3 _ v c.code) (by rfl) (by rfl) ?_
  refine sW ?_
  repeat (first | refine ⟨by omega,?_⟩ | refine ⟨by kernel_rfl,?_⟩)
  refine C1.im (yI _) (by rfl) (by rfl) ?_
  refine sW ?_
  repeat (first | refine ⟨by omega,?_⟩ | refine ⟨by kernel_rfl,?_⟩)
  exact .oA [] []
 have q:(c.op == 2) = false:=beq_eq_false_iff_ne.2 h2
 rw [if_neg h2]
 by_cases h4:c.op = 4
 ·have q4:(c.op == 4) = true:=beq_iff_eq.2 h4
  rw [if_neg (by omega),if_pos h4]
  refine qd yz mixm (by simp) fun e _ hst=>qg ?_
  unfold jp
  simp only [tZ,↓un_u,simprocAttr,q,q4]
  rw [show (-1099511627776:Int) = kO from rfl]
  refine C1.im (yI _) (by rfl) (by rfl) ?_
  refine sW ?_
  exact .oA [] []
 have q4:(c.op == 4) = false:=beq_eq_false_iff_ne.2 h4
 have h3:c.op = 3:=by
  unfold isAt at ha
  rw [q,q4] at ha
  simpa using ha
 rw [if_pos h3]
 refine qd yz mixm (by simp) fun e _ hst=>qg ?_
 unfold jp
 simp only [tZ,↓un_u,simprocAttr,q,q4,beq_iff_eq,beq_eq_false_iff_ne]
 rw [show (-1099511627776:Int) = kO from rfl]
 refine ⟨fun h=>?_,fun h=>?_⟩
 ·rw [if_pos h]
  exact .oA [] []
 ·rw [if_neg h]
  refine C1.im (yI _) (by rfl) (by rfl) ?_
  refine sW ?_
  exact .oA [] []
theorem JL:∀ (c:Cnd) (m:Int),1≤m→m≤1000→cntC c m < m→Spc Tryz.prog jl [cnT c] [] (vCs (atsC c)) []:=by
 refine Cnd.ind' fun c ih m hm hm2 hc=>?_
 have hal:=qn3 c m hm hc
 rw [Jq] at hc hal
 obtain ⟨hk1,hk2⟩:=qi2 (by omega) hc
 have hi:isAt c = ((c.op == 2) || (c.op == 3) || (c.op == 4)):=rfl
 refine qd qg2 mixm (by simp) fun e _ hst=>qg ?_
 unfold yb
 refine sW ?_
 rw [← hi]
 refine ⟨fun h=>?_,fun h=>?_⟩
 ·rw [qa7,if_pos h]
  show Qc [] _ _ (.sl 6 [cndT c]) []
  rw [zq]
  exact .oA [] [12292]
 ·rw [qa7,if_neg (by rw [h];simp)] at hal ⊢
  refine qy mixm (α:=Nat) [3,24,18] (fun i=>i≤c.kids.length) (fun i=>[(3,.asl 1 (yY (c.kids.take i)).length),(24,vI i)]) (fun i=>[(1,.arr 6 ((yY (c.kids.take i)).map cndT) false)]) (fun i=>c.kids.length - i) 0 (by omega) ?_ fun i hi2=>?_
  ·exact .oA [(1,none)] []
  have htl:=yj c.kids i
  refine sD ?_
  refine ⟨fun h5=>?_,fun h5=>?_⟩
  ·have hi2:i < c.kids.length:=by omega
   have hwi:=qj (i:=i) (by omega)
   obtain ⟨m',a1,a2,a3⟩:=hk2 _ (List.getElem_mem hi2)
   have htl2:=yj c.kids (i + 1)
   rw [qO hi2,JJ,List.length_append] at htl2
   simp only [tZ,↓un_u,simprocAttr,Int.toNat_natCast,qe hi2,zq]
   refine ⟨by omega,?_⟩
   refine C1.im (ih _ (List.getElem_mem hi2) m' a1 (by omega) a3) (by rfl) (by rfl) ?_
   simp only [tZ,↓un_u,simprocAttr,hwi]
   refine ⟨by omega,i + 1,by omega,by omega,?_⟩
   rw [qO hi2,JJ,List.map_append]
   refine .of [(1,some 1)] [] rfl (by first | rfl | (rw [hst];rfl)) ?_ ?_
   all_goals (try simp only [tL,simprocAttr,List.map_append,List.map_cons,List.map_nil,List.cons_append,List.nil_append,List.append_assoc])
   all_goals (try (repeat' (first | exact qZ | (apply zy;intro _;exact ⟨rfl,rfl⟩) | (apply qD;intro _;exact ⟨rfl,rfl⟩) | with_reducible apply qR | with_reducible refine qT ⟨rfl,rfl⟩ ?_ | exact ze | with_reducible apply qH | with_reducible refine qM ⟨rfl,rfl,?_⟩ ?_ | with_reducible apply And.intro | exact qJ rfl | exact qJ (by assumption) | (refine ⟨⟨?_,rfl,?_,rfl,?_⟩,trivial⟩ <;> first | (simp;done) | (apply qD;intro _;exact ⟨rfl,rfl⟩)) | trivial | rfl | (rw [qj (by omega)]) | omega)))
   all_goals first | exact qQ5 _ | exact zb6 _
  ·have hil:i = c.kids.length:=by omega
   subst hil
   rw [List.take_length]
   refine .of [] [1] rfl (by first | rfl | (rw [hst];rfl)) ?_ ?_
   all_goals (try simp only [tL,simprocAttr,List.map_append,List.map_cons,List.map_nil,List.cons_append,List.nil_append,List.append_assoc])
   all_goals (try (repeat' (first | exact qZ | (apply zy;intro _;exact ⟨rfl,rfl⟩) | (apply qD;intro _;exact ⟨rfl,rfl⟩) | with_reducible apply qR | with_reducible refine qT ⟨rfl,rfl⟩ ?_ | exact ze | with_reducible apply qH | with_reducible refine qM ⟨rfl,rfl,?_⟩ ?_ | with_reducible apply And.intro | exact qJ rfl | exact qJ (by assumption) | (refine ⟨⟨?_,rfl,?_,rfl,?_⟩,trivial⟩ <;> first | (simp;done) | (apply qD;intro _;exact ⟨rfl,rfl⟩)) | trivial | rfl | (rw [qj (by omega)]) | omega)))
   all_goals first | exact qQ5 _ | exact zb6 _
end Go.Proofs
namespace Go.Proofs
open Go Go.TL
set_option maxHeartbeats 4000000
theorem qA7 (col lev:Int):∀ (l:List Pk) (x:List Pk×Bool),(l.foldl (KY col lev) x).1.length + (if (l.foldl (KY col lev) x).2 = true then 0 else 1)≤x.1.length + (if x.2 = true then 0 else 1) + l.length
 | [],x=>Nat.le_refl _
 | p :: r,x=>by
   have h:=qA7 col lev r (KY col lev x p)
   have h2:(KY col lev x p).1.length + (if (KY col lev x p).2 = true then 0 else 1)≤x.1.length + (if x.2 = true then 0 else 1) + 1:=by
    unfold KY
    obtain ⟨a,b⟩:=x
    dsimp only
    split <;> split <;> cases b <;> simp_all <;> omega
   rw [List.foldl_cons,List.length_cons]
   omega
theorem qi4 (l:List Pk) (col lev:Int):(Kw l col lev).length≤l.length + 1:=by
 have h:=qA7 col lev l ([],decide (lev≤0))
 unfold Kw
 dsimp only at h ⊢
 split
 ·simp_all
  split at h <;> omega
 ·rename_i k
  rw [if_neg k] at h
  rw [List.length_append]
  simp at h ⊢
  split at h <;> omega
theorem qQ7 (l:List Pk) (col lev:Int) (hl:l.length < 1000000000):Spc Tryz.prog Kb [vPs l,vI col,vI lev] [] (vPs (Kw l col lev)) []:=by
 have hP:Kw l col lev = if (l.foldl (KY col lev) ([],decide (lev≤0))).2 then (l.foldl (KY col lev) ([],decide (lev≤0))).1 else (l.foldl (KY col lev) ([],decide (lev≤0))).1 ++ [⟨col,lev⟩]:=rfl
 have hS:∀ i,i≤l.length→((l.take i).foldl (KY col lev) ([],decide (lev≤0))).1.length≤l.length + 1:=fun i hi=>by
  have h:=qA7 col lev (l.take i) ([],decide (lev≤0))
  simp only [List.length_nil,List.length_take] at h
  split at h <;> split at h <;> omega
 refine qd qC8 mixm (by simp) fun e _ hst=>qg ?_
 unfold ZR
 refine sW ?_
 refine qy mixm (α:=Nat×List Pk×Bool) [7,8,9] (fun x=>x.1≤l.length∧x.2 = (l.take x.1).foldl (KY col lev) ([],decide (lev≤0))) (fun x=>[(7,.asl 1 x.2.1.length),(8,vB x.2.2),(9,vI x.1)]) (fun x=>[(1,.arr 2 (x.2.1.map pkT) false)]) (fun x=>l.length - x.1) (0,[],decide (lev≤0)) ⟨by simp,by simp⟩ ?_ fun x hx=>?_
 ·exact .oA [(1,none)] []
 obtain ⟨i,a,b⟩:=x
 obtain ⟨x1,x2⟩:=hx
 dsimp only at x1 x2
 have hSi:=hS i x1
 rw [← x2] at hSi
 dsimp only at hSi
 refine sD ?_
 refine ⟨fun h=>?_,fun h=>?_⟩
 ·have hi2:i < l.length:=by omega
  have hwi:=qj (i:=i) (by omega)
  have hs:(l.take (i + 1)).foldl (KY col lev) ([],decide (lev≤0)) = KY col lev (a,b) l[i]:=by rw [qO hi2,List.foldl_append,← x2];rfl
  simp only [tZ,↓un_u,simprocAttr,Int.toNat_natCast,qe hi2]
  generalize l[i] = p at hs ⊢
  have hmx:maxI p.lev lev = max p.lev lev:=by unfold maxI;omega
  have hr:KY col lev (a,b) p = (if p.col = col then ((if p.col > col∧b = false then (a ++ [⟨col,lev⟩],true) else (a,b)).1 ++ [⟨p.col,max p.lev lev⟩],true) else ((if p.col > col∧b = false then (a ++ [⟨col,lev⟩],true) else (a,b)).1 ++ [p],(if p.col > col∧b = false then (a ++ [(⟨col,lev⟩:Pk)],true) else (a,b)).2)):=rfl
  rw [hr] at hs
  simp only [tZ,↓un_u,simprocAttr,tD,beq_iff_eq,beq_eq_false_iff_ne,Bool.not_eq_true',Bool.not_eq_false',hwi,hmx]
  refine ⟨by omega,fun h2=>⟨by omega,fun h3=>by omega,fun h3=>?_⟩,fun h2=>⟨fun h3=>?_,fun h3=>?_⟩⟩
  ·rw [if_neg h3,if_pos h2] at hs
   refine ⟨by omega,(i + 1,a ++ [⟨col,lev⟩] ++ [p],true),⟨by dsimp only;omega,hs.symm⟩,by dsimp only;omega,?_⟩
   exact .oA [(1,some 1)] []
  ·rw [if_pos h3,if_neg (by grind)] at hs
   refine ⟨by omega,(i + 1,a ++ [⟨p.col,max p.lev lev⟩],true),⟨by dsimp only;omega,hs.symm⟩,by dsimp only;omega,?_⟩
   exact .oA [(1,some 1)] []
  ·rw [if_neg h3,if_neg (by grind)] at hs
   refine ⟨by omega,(i + 1,a ++ [p],b),⟨by dsimp only;omega,hs.symm⟩,by dsimp only;omega,?_⟩
   exact .oA [(1,some 1)] []
 ·have hil:i = l.length:=by omega
  subst hil
  rw [List.take_length] at x2
  rw [← x2] at hP
  dsimp only at hP
  simp only [tZ,↓un_u,simprocAttr,Bool.not_eq_true',Bool.not_eq_false']
  refine ⟨fun h2=>?_,fun h2=>?_⟩
  ·rw [hP,h2,if_neg (by simp)]
   refine ⟨by omega,?_⟩
   show Qc [] _ _ (.sl 2 ((a ++ [(⟨col,lev⟩:Pk)]).map pkT)) []
   rw [List.map_append]
   exact .oA [] [1]
  ·rw [hP,if_pos h2]
   exact .oA [] [1]
theorem YC (a b:List Pk) (ha:a.length < 4611686018427387904) (hb:b.length < 4611686018427387904):Spc Tryz.prog yN [vPs a,vPs b] [] (vB (covB a b)) []:=by
 refine qd qx3 mixm (by simp) fun e _ hst=>qg ?_
 unfold Zd
 refine sW ?_
 refine qy mixm (α:=Nat) [5] (fun i=>i≤a.length∧(covB (a.take i) b = true)) (fun i=>[(5,vI i)]) (fun i=>[]) (fun i=>a.length - i) 0 ⟨by omega,?_⟩ ?_ fun i hi=>?_
 ·rfl
 ·exact .oA [] []
 simp only [tZ,↓un_u,simprocAttr,decide_eq_true_eq,decide_eq_false_iff_not]
 refine ⟨fun h=>?_,fun h=>?_⟩
 ·have hi2:i < a.length:=by omega
  have hwi:=qj (i:=i) (by omega)
  refine qy mixm (α:=Nat) [6,7] (fun k=>k≤b.length) (fun k=>[(6,vB ((b.take k).any fun y=>(y.col == a[i].col) && decide (y.lev≥a[i].lev))),(7,vI k)]) (fun k=>[]) (fun k=>b.length - k) 0 (by omega) ?_ fun k hk=>?_
  ·exact .oA [] []
  refine sD ?_
  refine ⟨fun h4=>?_,fun h4=>?_⟩
  ·have hk2:k < b.length:=by omega
   have hwk:=qj (i:=k) (by omega)
   simp only [tZ,↓un_u,simprocAttr,Int.toNat_natCast,qe hi2,qe hk2,hwk]
   refine ⟨fun _=>by omega,fun _=>by omega,fun _=>by omega,fun _=>by omega,by kernel_rfl,k + 1,by omega,by omega,?_⟩
   rw [qO hk2,List.any_append,List.any_cons,List.any_nil,Bool.or_false]
   exact .oA [] []
  ·have hkl:k = b.length:=by omega
   subst hkl
   rw [List.take_length]
   have hcs:covB (a.take (i + 1)) b = (covB (a.take i) b && b.any fun y=>(y.col == a[i].col) && decide (y.lev≥a[i].lev)):=by
    unfold covB
    rw [qO hi2,List.all_append]
    simp
   simp only [tZ,↓un_u,simprocAttr,Bool.not_eq_true',Bool.not_eq_false',hwi]
   refine ⟨fun h5=>?_,fun h5=>?_⟩
   ·have:covB a b = false:=List.all_eq_false.2 ⟨_,List.getElem_mem hi2,by rw [h5];simp⟩
    rw [this]
    exact .oA [] []
   ·refine ⟨i + 1,⟨by omega,by rw [hcs,hi.2,h5];rfl⟩,by omega,?_⟩
    exact .oA [] []
 ·have hi2:i = a.length:=by omega
  subst hi2
  have h3:=hi.2
  rw [List.take_length] at h3
  rw [h3]
  exact .oA [] []
inductive SmC:Cnd→Prop
 | mk (c:Cnd) (h1:c.kids.length < 4611686018427387904) (h2:∀ k∈c.kids,SmC k):SmC c
end Go.Proofs
