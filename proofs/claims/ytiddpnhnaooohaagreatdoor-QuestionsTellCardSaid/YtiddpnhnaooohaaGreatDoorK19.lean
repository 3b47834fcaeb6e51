/- A part of the proof: trees of Go values, short forms, contracts. -/
import Derived.WalkKit
import Derived.Still
import Derived.MapKept
import GoSem.Builtin.Cap
import Derived.Laws.Externs
import GoSem.Extern.SlicesOverlaps
import Derived.Carry
import Derived.ProofKit
import Derived.OpenShut
import Derived.HandedShaped
import Derived.Lay
import Derived.LaidLaws
import Derived.MakeChecks
import Derived.SevenTiedAt
import Derived.Test.YtiddpnhnaooohaaGreatDoorChecked
import Derived.Test.YtiddpnhnaooohaaGreatDoorK18
set_option linter.unusedSimpArgs false
set_option linter.unusedVariables false
namespace Go.Proofs
open Go Go.TL
set_option maxRecDepth 4000
set_option maxHeartbeats 8000000
theorem qd0:∀ {s:Sch} {l:List Cnd} {i:Nat} (h:i < l.length),yq s (l.take i) = 0→nodE s l[i]≠0→yq s l = nodE s l[i]
 | s,x :: r,0,h,_,h2=>by
   have h2:nodE s x≠0:=h2
   rw [yq,if_pos h2];rfl
 | s,x :: r,i + 1,h,h1,h2=>by
   rw [List.take_succ_cons,yq] at h1
   split at h1
   ·rename_i h3;exact absurd h1 h3
   ·rename_i h3
    rw [yq,if_neg h3]
    exact qd0 (l:=r) (i:=i) (by simpa using h) h1 h2
theorem qp0:∀ {s:Sch} {l:List Cnd} {k:Cnd},yq s l = 0→nodE s k = 0→yq s (l ++ [k]) = 0
 | s,[],k,_,h=>by simp [yq,h]
 | s,x :: r,k,h1,h2=>by
   rw [yq] at h1
   split at h1
   ·rename_i h3;exact absurd h1 h3
   ·rename_i h3
    rw [List.cons_append,yq,if_neg h3]
    exact qp0 h1 h2
theorem SchOk.list0 {s:Sch} (h:SchOk s) {i:Nat} (hi:i < s.cols.length) (hk:(qh s i).kind≠2):(qh s i).list = 0:=by
 have:=h.cs i hi
 unfold colE at this
 grind
theorem zf1 (s:Sch) (hok:SchOk s) (hL:0 < s.lists.length):∀ (c:Cnd),Spc Tryz.prog ZM [schT s,cnT c] [] (vI (nodE s c)) []:=by
 refine Cnd.ind' fun c ih=>?_
 have hN0:=qT1 s c
 have hn0:=hok.nl
 have hn1:=hok.nc
 generalize nodE s c = N at hN0 ⊢
 obtain ⟨op,col,code,lo,hi,ks⟩:=c
 simp only [Cnd.op,Cnd.col,Cnd.code,Cnd.lo,Cnd.hi,Cnd.kids] at ih hN0 ⊢
 have hn:ndE s (.mk op col code lo hi ks) = if op < 1∨7 < op then 4
 else if ks.length≠arC op∨(op≠2∧op≠3∧op≠4∧col≠0)∨(op≠2∧code≠0)∨(op≠3∧(lo≠0∨hi≠0)) then 11
 else if (op = 2∧isB s col 2 = false)∨(op = 3∧isB s col 3 = false)∨(op = 4∧(isB s col 3 = false∨(qh s col.toNat).opt = false)) then 7
 else if op = 2∧(code < 0∨code≥(qH s col.toNat).codes.length) then 6
 else if op = 3∧(lo < -1000000∨hi > 1000000∨lo > hi) then 2 else 0:=rfl
 have hbad:∀ v,v≠0→ndE s (.mk op col code lo hi ks) = v→N = v:=fun v h1 h2=>by rw [hN0,h2,if_pos h1]
 have hgood:ndE s (.mk op col code lo hi ks) = 0→N = yq s ks:=fun h2=>by rw [hN0,h2,if_neg (by simp)]
 clear hN0
 generalize ndE s (.mk op col code lo hi ks) = E at hn hbad hgood
 have h0p:0 < s.cols.length:=by omega
 have hg0:(s.cols.map colT).getD 0 .junk = colT s.cols[0]:=qe (i:=0) h0p
 have hl0:s.cols[0].list.toNat = 0:=by
  have h1:=hok.c0
  have:=hok.list0 (i:=0) h0p (by rw [h1];decide)
  rw [qh,qk h0p] at this
  rw [this];rfl
 have hgl:(s.lists.map cdlT).getD 0 .junk = cdlT s.lists[0]:=qe hL
 have hop:op = 1∨op = 2∨op = 3∨op = 4∨op = 5∨op = 6∨op = 7∨op < 1∨7 < op:=by omega
 rcases hop with e | e | e | e | e | e | e | e
 focus
  have q1:(op == 1) = true:=by rw [e];rfl
  have q2:(op == 2) = false:=by rw [e];rfl
  have q3:(op == 3) = false:=by rw [e];rfl
  have q4:(op == 4) = false:=by rw [e];rfl
  have q5:(op == 5) = false:=by rw [e];rfl
  have q6:(op == 6) = false:=by rw [e];rfl
  have q7:(op == 7) = false:=by rw [e];rfl
  simp [arC,-List.length_eq_zero_iff,e] at hn
  refine qd jc mixm (by simp) fun e _ hst=>qg ?_
  unfold zt
  simp only [tZ,↓un_u,simprocAttr,Cnd.op,Cnd.col,Cnd.code,Cnd.lo,Cnd.hi,Cnd.kids,q1,q2,q3,q4,q5,q6,q7]
  refine ⟨by kernel_rfl,fun h=>?_,fun h=>?_⟩
  ·rw [hbad 11 (by decide) (by rw [hn,if_pos];grind)]
   exact .oA [] []
  have hks:ks.length≤2:=by grind
  rw [hgood (by rw [hn,if_neg];grind)]
  have hc0:col.toNat = 0:=by grind
  refine C2.im (fun _=>qX s col 2) (fun _=>rfl) (by rfl) ?_
  simp only [tZ,↓un_u,simprocAttr,Cnd.op,Cnd.col,Cnd.code,Cnd.lo,Cnd.hi,Cnd.kids,q1,q2,q3,q4,q5,q6,q7]
  refine C2.im (fun _=>qX s col 3) (fun _=>rfl) (by rfl) ?_
  simp only [tZ,↓un_u,simprocAttr,Cnd.op,Cnd.col,Cnd.code,Cnd.lo,Cnd.hi,Cnd.kids,q1,q2,q3,q4,q5,q6,q7]
  refine C2.im (fun _=>qX s col 3) (fun _=>rfl) (by rfl) ?_
  simp only [tZ,↓un_u,simprocAttr,Cnd.op,Cnd.col,Cnd.code,Cnd.lo,Cnd.hi,Cnd.kids,q1,q2,q3,q4,q5,q6,q7,hc0,hg0,hl0,hgl]
  refine ⟨by kernel_rfl,?_⟩
 rotate_left
 focus
  have q1:(op == 1) = false:=by rw [e];rfl
  have q2:(op == 2) = true:=by rw [e];rfl
  have q3:(op == 3) = false:=by rw [e];rfl
  have q4:(op == 4) = false:=by rw [e];rfl
  have q5:(op == 5) = false:=by rw [e];rfl
  have q6:(op == 6) = false:=by rw [e];rfl
  have q7:(op == 7) = false:=by rw [e];rfl
  simp [arC,-List.length_eq_zero_iff,e] at hn
  refine qd jc mixm (by simp) fun e _ hst=>qg ?_
  unfold zt
  simp only [tZ,↓un_u,simprocAttr,Cnd.op,Cnd.col,Cnd.code,Cnd.lo,Cnd.hi,Cnd.kids,q1,q2,q3,q4,q5,q6,q7]
  refine ⟨by kernel_rfl,?_⟩
  refine ⟨by kernel_rfl,?_⟩
  refine ⟨fun h=>?_,fun h=>?_⟩
  ·rw [hbad 11 (by decide) (by rw [hn,if_pos];grind)]
   exact .oA [] []
  have hks:ks.length≤2:=by grind
  rw [if_neg (by grind)] at hn
  refine C2.im (fun _=>qX s col 2) (fun _=>rfl) (by rfl) ?_
  simp only [tZ,↓un_u,simprocAttr,Cnd.op,Cnd.col,Cnd.code,Cnd.lo,Cnd.hi,Cnd.kids,q1,q2,q3,q4,q5,q6,q7]
  refine C2.im (fun _=>qX s col 3) (fun _=>rfl) (by rfl) ?_
  simp only [tZ,↓un_u,simprocAttr,Cnd.op,Cnd.col,Cnd.code,Cnd.lo,Cnd.hi,Cnd.kids,q1,q2,q3,q4,q5,q6,q7]
  refine C2.im (fun _=>qX s col 3) (fun _=>rfl) (by rfl) ?_
  by_cases h2:isB s col 2 = false
  ·rw [hbad 7 (by decide) (by rw [hn,if_pos (by grind)])]
   rcases Nat.lt_or_ge col.toNat s.cols.length with hk | hk
   ·simp only [tZ,↓un_u,simprocAttr,Cnd.op,Cnd.col,Cnd.code,Cnd.lo,Cnd.hi,Cnd.kids,q1,q2,q3,q4,q5,q6,q7,h2,qe hk]
    exact .oA [] []
   ·simp only [tZ,↓un_u,simprocAttr,Cnd.op,Cnd.col,Cnd.code,Cnd.lo,Cnd.hi,Cnd.kids,q1,q2,q3,q4,q5,q6,q7,h2,qj6 hk,List.drop_succ_cons,List.drop_nil]
    exact .oA [] []
  rw [Bool.not_eq_false] at h2
  obtain ⟨b1,b2,b3⟩:=zQ.1 h2
  obtain ⟨i,hci⟩:∃ i:Nat,col.toNat = i:=⟨_,rfl⟩
  rw [hci] at b3
  try rw [hci] at hn
  have hil:i < s.cols.length:=by omega
  have hat:qh s i = s.cols[i]:=by rw [qh,qk hil]
  have hcd:=hok.cdl hil b3
  have hcd2:=(za (hok.cs i hil)).2.2.2.1 b3
  have hcl:qH s i = s.lists.getD s.cols[i].list.toNat default:=by rw [qH,hat]
  rw [hat] at hcd hcd2
  rw [hcl,qk hcd.1] at hcd
  have hn:E = if code < 0∨code≥s.lists[s.cols[i].list.toNat].codes.length then 6 else 0:=by
   rw [hn,if_neg (by rw [h2];simp)]
   simp [hil,hcd.1]
  simp only [tZ,↓un_u,simprocAttr,Cnd.op,Cnd.col,Cnd.code,Cnd.lo,Cnd.hi,Cnd.kids,q1,q2,q3,q4,q5,q6,q7,h2,hci,qe hil,qe hcd.1,tD]
  refine ⟨fun _=>by omega,fun _=>by omega,by kernel_rfl,fun h3=>?_,fun h3=>?_⟩
  ·rw [hbad 6 (by decide) (by rw [hn,if_pos (by omega)])]
   exact .oA [] []
  rw [hgood (by rw [hn,if_neg (by omega)])]
 rotate_left
 focus
  have q1:(op == 1) = false:=by rw [e];rfl
  have q2:(op == 2) = false:=by rw [e];rfl
  have q3:(op == 3) = true:=by rw [e];rfl
  have q4:(op == 4) = false:=by rw [e];rfl
  have q5:(op == 5) = false:=by rw [e];rfl
  have q6:(op == 6) = false:=by rw [e];rfl
  have q7:(op == 7) = false:=by rw [e];rfl
  simp [arC,-List.length_eq_zero_iff,e] at hn
  refine qd jc mixm (by simp) fun e _ hst=>qg ?_
  unfold zt
  simp only [tZ,↓un_u,simprocAttr,Cnd.op,Cnd.col,Cnd.code,Cnd.lo,Cnd.hi,Cnd.kids,q1,q2,q3,q4,q5,q6,q7]
  refine ⟨by kernel_rfl,?_⟩
  refine ⟨by kernel_rfl,?_⟩
  refine ⟨fun h=>?_,fun h=>?_⟩
  ·rw [hbad 11 (by decide) (by rw [hn,if_pos];grind)]
   exact .oA [] []
  have hks:ks.length≤2:=by grind
  rw [if_neg (by grind)] at hn
  refine C2.im (fun _=>qX s col 2) (fun _=>rfl) (by rfl) ?_
  simp only [tZ,↓un_u,simprocAttr,Cnd.op,Cnd.col,Cnd.code,Cnd.lo,Cnd.hi,Cnd.kids,q1,q2,q3,q4,q5,q6,q7]
  refine C2.im (fun _=>qX s col 3) (fun _=>rfl) (by rfl) ?_
  simp only [tZ,↓un_u,simprocAttr,Cnd.op,Cnd.col,Cnd.code,Cnd.lo,Cnd.hi,Cnd.kids,q1,q2,q3,q4,q5,q6,q7]
  refine C2.im (fun _=>qX s col 3) (fun _=>rfl) (by rfl) ?_
  by_cases h2:isB s col 3 = false
  ·rw [hbad 7 (by decide) (by rw [hn,if_pos (by grind)])]
   rcases Nat.lt_or_ge col.toNat s.cols.length with hk | hk
   ·simp only [tZ,↓un_u,simprocAttr,Cnd.op,Cnd.col,Cnd.code,Cnd.lo,Cnd.hi,Cnd.kids,q1,q2,q3,q4,q5,q6,q7,h2,qe hk]
    exact .oA [] []
   ·simp only [tZ,↓un_u,simprocAttr,Cnd.op,Cnd.col,Cnd.code,Cnd.lo,Cnd.hi,Cnd.kids,q1,q2,q3,q4,q5,q6,q7,h2,qj6 hk,List.drop_succ_cons,List.drop_nil]
    exact .oA [] []
  rw [Bool.not_eq_false] at h2
  obtain ⟨b1,b2,b3⟩:=zQ.1 h2
  obtain ⟨i,hci⟩:∃ i:Nat,col.toNat = i:=⟨_,rfl⟩
  rw [hci] at b3
  try rw [hci] at hn
  have hil:i < s.cols.length:=by omega
  have hat:qh s i = s.cols[i]:=by rw [qh,qk hil]
  have hli:s.cols[i].list.toNat = 0:=by
   have:=hok.list0 hil (by rw [b3];decide)
   rw [hat] at this
   rw [this];rfl
  rw [if_neg (by rw [h2];simp)] at hn
  simp only [tZ,↓un_u,simprocAttr,Cnd.op,Cnd.col,Cnd.code,Cnd.lo,Cnd.hi,Cnd.kids,q1,q2,q3,q4,q5,q6,q7,h2,hci,qe hil,hli,hgl,tD]
  refine ⟨by kernel_rfl,fun h3=>?_,fun h3=>?_⟩
  ·rw [hbad 2 (by decide) (by rw [hn,if_pos (by omega)])]
   exact .oA [] []
  rw [hgood (by rw [hn,if_neg (by omega)])]
 rotate_left
 focus
  have q1:(op == 1) = false:=by rw [e];rfl
  have q2:(op == 2) = false:=by rw [e];rfl
  have q3:(op == 3) = false:=by rw [e];rfl
  have q4:(op == 4) = true:=by rw [e];rfl
  have q5:(op == 5) = false:=by rw [e];rfl
  have q6:(op == 6) = false:=by rw [e];rfl
  have q7:(op == 7) = false:=by rw [e];rfl
  simp [arC,-List.length_eq_zero_iff,e] at hn
  refine qd jc mixm (by simp) fun e _ hst=>qg ?_
  unfold zt
  simp only [tZ,↓un_u,simprocAttr,Cnd.op,Cnd.col,Cnd.code,Cnd.lo,Cnd.hi,Cnd.kids,q1,q2,q3,q4,q5,q6,q7]
  refine ⟨by kernel_rfl,?_⟩
  refine ⟨fun h=>?_,fun h=>?_⟩
  ·rw [hbad 11 (by decide) (by rw [hn,if_pos];grind)]
   exact .oA [] []
  have hks:ks.length≤2:=by grind
  rw [if_neg (by grind)] at hn
  refine C2.im (fun _=>qX s col 2) (fun _=>rfl) (by rfl) ?_
  simp only [tZ,↓un_u,simprocAttr,Cnd.op,Cnd.col,Cnd.code,Cnd.lo,Cnd.hi,Cnd.kids,q1,q2,q3,q4,q5,q6,q7]
  refine C2.im (fun _=>qX s col 3) (fun _=>rfl) (by rfl) ?_
  simp only [tZ,↓un_u,simprocAttr,Cnd.op,Cnd.col,Cnd.code,Cnd.lo,Cnd.hi,Cnd.kids,q1,q2,q3,q4,q5,q6,q7]
  refine C2.im (fun _=>qX s col 3) (fun _=>rfl) (by rfl) ?_
  by_cases h2:isB s col 3 = false
  ·rw [hbad 7 (by decide) (by rw [hn,if_pos (by grind)])]
   rcases Nat.lt_or_ge col.toNat s.cols.length with hk | hk
   ·simp only [tZ,↓un_u,simprocAttr,Cnd.op,Cnd.col,Cnd.code,Cnd.lo,Cnd.hi,Cnd.kids,q1,q2,q3,q4,q5,q6,q7,h2,qe hk]
    exact .oA [] []
   ·simp only [tZ,↓un_u,simprocAttr,Cnd.op,Cnd.col,Cnd.code,Cnd.lo,Cnd.hi,Cnd.kids,q1,q2,q3,q4,q5,q6,q7,h2,qj6 hk,List.drop_succ_cons,List.drop_nil]
    exact .oA [] []
  rw [Bool.not_eq_false] at h2
  obtain ⟨b1,b2,b3⟩:=zQ.1 h2
  obtain ⟨i,hci⟩:∃ i:Nat,col.toNat = i:=⟨_,rfl⟩
  rw [hci] at b3
  try rw [hci] at hn
  have hil:i < s.cols.length:=by omega
  have hat:qh s i = s.cols[i]:=by rw [qh,qk hil]
  have hli:s.cols[i].list.toNat = 0:=by
   have:=hok.list0 hil (by rw [b3];decide)
   rw [hat] at this
   rw [this];rfl
  have hn:E = if s.cols[i].opt = false then 7 else 0:=by
   rw [hn]
   simp [hil,h2]
  simp only [tZ,↓un_u,simprocAttr,Cnd.op,Cnd.col,Cnd.code,Cnd.lo,Cnd.hi,Cnd.kids,q1,q2,q3,q4,q5,q6,q7,h2,hci,qe hil,hli,hgl,Bool.not_eq_true',Bool.not_eq_false']
  refine ⟨by omega,fun h3=>?_,fun h3=>?_⟩
  ·rw [hbad 7 (by decide) (by rw [hn,if_pos h3])]
   exact .oA [] []
  rw [hgood (by rw [hn,if_neg (by rw [h3];simp)])]
  refine ⟨by kernel_rfl,?_⟩
 rotate_left
 focus
  have q1:(op == 1) = false:=by rw [e];rfl
  have q2:(op == 2) = false:=by rw [e];rfl
  have q3:(op == 3) = false:=by rw [e];rfl
  have q4:(op == 4) = false:=by rw [e];rfl
  have q5:(op == 5) = true:=by rw [e];rfl
  have q6:(op == 6) = false:=by rw [e];rfl
  have q7:(op == 7) = false:=by rw [e];rfl
  simp [arC,-List.length_eq_zero_iff,e] at hn
  refine qd jc mixm (by simp) fun e _ hst=>qg ?_
  unfold zt
  simp only [tZ,↓un_u,simprocAttr,Cnd.op,Cnd.col,Cnd.code,Cnd.lo,Cnd.hi,Cnd.kids,q1,q2,q3,q4,q5,q6,q7]
  refine ⟨by kernel_rfl,fun h=>?_,fun h=>?_⟩
  ·rw [hbad 11 (by decide) (by rw [hn,if_pos];grind)]
   exact .oA [] []
  have hks:ks.length≤2:=by grind
  rw [hgood (by rw [hn,if_neg];grind)]
  have hc0:col.toNat = 0:=by grind
  refine C2.im (fun _=>qX s col 2) (fun _=>rfl) (by rfl) ?_
  simp only [tZ,↓un_u,simprocAttr,Cnd.op,Cnd.col,Cnd.code,Cnd.lo,Cnd.hi,Cnd.kids,q1,q2,q3,q4,q5,q6,q7]
  refine C2.im (fun _=>qX s col 3) (fun _=>rfl) (by rfl) ?_
  simp only [tZ,↓un_u,simprocAttr,Cnd.op,Cnd.col,Cnd.code,Cnd.lo,Cnd.hi,Cnd.kids,q1,q2,q3,q4,q5,q6,q7]
  refine C2.im (fun _=>qX s col 3) (fun _=>rfl) (by rfl) ?_
  simp only [tZ,↓un_u,simprocAttr,Cnd.op,Cnd.col,Cnd.code,Cnd.lo,Cnd.hi,Cnd.kids,q1,q2,q3,q4,q5,q6,q7,hc0,hg0,hl0,hgl]
  refine ⟨by kernel_rfl,?_⟩
 rotate_left
 focus
  have q1:(op == 1) = false:=by rw [e];rfl
  have q2:(op == 2) = false:=by rw [e];rfl
  have q3:(op == 3) = false:=by rw [e];rfl
  have q4:(op == 4) = false:=by rw [e];rfl
  have q5:(op == 5) = false:=by rw [e];rfl
  have q6:(op == 6) = true:=by rw [e];rfl
  have q7:(op == 7) = false:=by rw [e];rfl
  simp [arC,-List.length_eq_zero_iff,e] at hn
  refine qd jc mixm (by simp) fun e _ hst=>qg ?_
  unfold zt
  simp only [tZ,↓un_u,simprocAttr,Cnd.op,Cnd.col,Cnd.code,Cnd.lo,Cnd.hi,Cnd.kids,q1,q2,q3,q4,q5,q6,q7]
  refine ⟨by kernel_rfl,fun h=>?_,fun h=>?_⟩
  ·rw [hbad 11 (by decide) (by rw [hn,if_pos];grind)]
   exact .oA [] []
  have hks:ks.length≤2:=by grind
  rw [hgood (by rw [hn,if_neg];grind)]
  have hc0:col.toNat = 0:=by grind
  refine C2.im (fun _=>qX s col 2) (fun _=>rfl) (by rfl) ?_
  simp only [tZ,↓un_u,simprocAttr,Cnd.op,Cnd.col,Cnd.code,Cnd.lo,Cnd.hi,Cnd.kids,q1,q2,q3,q4,q5,q6,q7]
  refine C2.im (fun _=>qX s col 3) (fun _=>rfl) (by rfl) ?_
  simp only [tZ,↓un_u,simprocAttr,Cnd.op,Cnd.col,Cnd.code,Cnd.lo,Cnd.hi,Cnd.kids,q1,q2,q3,q4,q5,q6,q7]
  refine C2.im (fun _=>qX s col 3) (fun _=>rfl) (by rfl) ?_
  simp only [tZ,↓un_u,simprocAttr,Cnd.op,Cnd.col,Cnd.code,Cnd.lo,Cnd.hi,Cnd.kids,q1,q2,q3,q4,q5,q6,q7,hc0,hg0,hl0,hgl]
  refine ⟨by kernel_rfl,?_⟩
 rotate_left
 focus
  have q1:(op == 1) = false:=by rw [e];rfl
  have q2:(op == 2) = false:=by rw [e];rfl
  have q3:(op == 3) = false:=by rw [e];rfl
  have q4:(op == 4) = false:=by rw [e];rfl
  have q5:(op == 5) = false:=by rw [e];rfl
  have q6:(op == 6) = false:=by rw [e];rfl
  have q7:(op == 7) = true:=by rw [e];rfl
  simp [arC,-List.length_eq_zero_iff,e] at hn
  refine qd jc mixm (by simp) fun e _ hst=>qg ?_
  unfold zt
  simp only [tZ,↓un_u,simprocAttr,Cnd.op,Cnd.col,Cnd.code,Cnd.lo,Cnd.hi,Cnd.kids,q1,q2,q3,q4,q5,q6,q7]
  refine ⟨by kernel_rfl,fun h=>?_,fun h=>?_⟩
  ·rw [hbad 11 (by decide) (by rw [hn,if_pos];grind)]
   exact .oA [] []
  have hks:ks.length≤2:=by grind
  rw [hgood (by rw [hn,if_neg];grind)]
  have hc0:col.toNat = 0:=by grind
  refine C2.im (fun _=>qX s col 2) (fun _=>rfl) (by rfl) ?_
  simp only [tZ,↓un_u,simprocAttr,Cnd.op,Cnd.col,Cnd.code,Cnd.lo,Cnd.hi,Cnd.kids,q1,q2,q3,q4,q5,q6,q7]
  refine C2.im (fun _=>qX s col 3) (fun _=>rfl) (by rfl) ?_
  simp only [tZ,↓un_u,simprocAttr,Cnd.op,Cnd.col,Cnd.code,Cnd.lo,Cnd.hi,Cnd.kids,q1,q2,q3,q4,q5,q6,q7]
  refine C2.im (fun _=>qX s col 3) (fun _=>rfl) (by rfl) ?_
  simp only [tZ,↓un_u,simprocAttr,Cnd.op,Cnd.col,Cnd.code,Cnd.lo,Cnd.hi,Cnd.kids,q1,q2,q3,q4,q5,q6,q7,hc0,hg0,hl0,hgl]
  refine ⟨by kernel_rfl,?_⟩
 rotate_left
 focus
  have q1:(op == 1) = false:=beq_eq_false_iff_ne.2 (by omega)
  have q2:(op == 2) = false:=beq_eq_false_iff_ne.2 (by omega)
  have q3:(op == 3) = false:=beq_eq_false_iff_ne.2 (by omega)
  have q4:(op == 4) = false:=beq_eq_false_iff_ne.2 (by omega)
  have q5:(op == 5) = false:=beq_eq_false_iff_ne.2 (by omega)
  have q6:(op == 6) = false:=beq_eq_false_iff_ne.2 (by omega)
  have q7:(op == 7) = false:=beq_eq_false_iff_ne.2 (by omega)
  rw [hbad 4 (by decide) (by rw [hn,if_pos e])]
  refine qd jc mixm (by simp) fun e _ hst=>qg ?_
  unfold zt
  simp only [tZ,↓un_u,simprocAttr,Cnd.op,Cnd.col,Cnd.code,Cnd.lo,Cnd.hi,Cnd.kids,q1,q2,q3,q4,q5,q6,q7]
  refine ⟨by kernel_rfl,?_⟩
  exact .oA [] []
 all_goals (
  refine qw mixm (α:=Nat) [7,77,121,147,167] (fun i=>i≤ks.length∧yq s (ks.take i) = 0) (fun i=>[(7,vI i)]) (fun i=>[(4096,.arr 2 [schT s] false),(4100,.arr 6 [.agg [vI op,vI col,vI code,vI lo,vI hi,vCs ks]] false)]) (fun i=>ks.length - i) 0 ⟨by omega,by rw [List.take_zero,yq]⟩ ?_ fun i hi2=>?_
  ·exact .oA [(4096,some 4096),(4100,some 4100)] []
  obtain ⟨i1,i2⟩:=hi2
  refine sD ?_
  refine ⟨fun h5=>?_,fun h5=>?_⟩
  ·have hi2:i < ks.length:=by omega
   have hwi:=qj (i:=i) (by omega)
   simp only [tZ,↓un_u,simprocAttr,Int.toNat_natCast,qe hi2,zg]
   refine ⟨by omega,?_⟩
   refine C1.im (ih _ (List.getElem_mem hi2)) (by rfl) (by rfl) ?_
   simp only [tZ,↓un_u,simprocAttr,hwi,bne_iff_ne,bne_eq_false_iff_eq]
   refine ⟨by kernel_rfl,fun h6=>?_,fun h6=>?_⟩
   ·rw [qd0 hi2 i2 h6]
    exact .oA [] []
   ·refine ⟨i + 1,⟨by omega,by rw [qR hi2];exact qp0 i2 h6⟩,by omega,?_⟩
    exact .oA [(4096,some 4096),(4100,some 4100)] []
  ·have hil:i = ks.length:=by omega
   subst hil
   rw [List.take_length] at i2
   rw [i2]
   exact .oA [] []
  )
end Go.Proofs
namespace Go.Proofs
open Go Go.TL
set_option maxHeartbeats 4000000
theorem qj7 (s:Sch) (hs:QO s) (hL:0 < s.lists.length) (c:Cnd):Spc Tryz.prog QF [schT s,cnT c] [] (vI (chkC s c)) []:=by
 refine qd qF2 mixm (by simp) fun e _ hst=>qg ?_
 unfold Jc
 refine sW ?_
 refine C1.im (QP s hs) (by rfl) (by rfl) ?_
 simp only [tZ,↓un_u,simprocAttr,bne_iff_ne,bne_eq_false_iff_eq]
 refine ⟨fun h=>?_,fun h=>?_⟩
 ·rw [chkC,if_pos h]
  exact .oA [] []
 have hok:=qZ h
 refine C1.im (qU1 c 41 (by omega) (by omega)) (by rfl) (by rfl) ?_
 refine sD ?_
 refine ⟨fun h2=>?_,fun h2=>?_⟩
 ·rw [chkC,if_neg (by rw [h];simp),if_pos h2]
  exact .oA [] []
 refine C1.im (qU2 c 41 (by omega) (by omega) (by omega)) (by rfl) (by rfl) ?_
 refine sD ?_
 refine ⟨fun h3=>?_,fun h3=>?_⟩
 ·rw [chkC,if_neg (by rw [h];simp),if_neg h2,if_pos (by omega)]
  exact .oA [] []
 rw [chkC,if_neg (by rw [h];simp),if_neg h2,if_neg (by omega)]
 refine C1.im (zf1 s hok hL c) (by rfl) (by rfl) ?_
 refine sW ?_
 exact .oA [] []
theorem qp1 {s:Sch} {c:Cnd} (h:chkC s c = 0):schE s = 0∧cntC c 41 < 41∧depC c≤10∧nodE s c = 0:=by
 unfold chkC at h
 split at h
 ·rename_i h1;exact absurd h h1
 rename_i h1
 split at h
 ·cases h
 rename_i h2
 split at h
 ·cases h
 rename_i h3
 exact ⟨Classical.byContradiction h1,by omega,by omega,h⟩
theorem zf2 (s:Sch) (hok:SchOk s) (c:Cnd) (hc:NdOk s c) (v:Int):Spc Tryz.prog ZL [schT s,cnT c,vI v] [] (vI (zT s c v)) []:=by
 have hn0:=hok.nl
 have hn1:=hok.nc
 have hA:zT s c v = if c.op = 2 then tf (Yb (qH s c.col.toNat) v c.code)
 else if c.op = 3 then (if v = kT then 0 else tf (decide (c.lo≤v) && decide (v≤c.hi)))
 else if c.op = 4 then tf (v == kT) else -1:=rfl
 rw [hA]
 by_cases h2:c.op = 2
 ·obtain ⟨b,b4,b5⟩:=hc.under h2
  obtain ⟨b1,b2,b3⟩:=zQ.1 b
  obtain ⟨i,hci⟩:=Int.eq_ofNat_of_zero_le b1
  rw [hci] at b2 b5
  rw [hci,Int.toNat_natCast] at b3
  rw [Int.toNat_natCast] at b5
  have hil:i < s.cols.length:=by omega
  have hat:qh s i = s.cols[i]:=by rw [qh,qk hil]
  have hcd:=hok.cdl hil b3
  have hcd2:=(za (hok.cs i hil)).2.2.2.1 b3
  have hcl:qH s i = s.lists.getD s.cols[i].list.toNat default:=by rw [qH,hat]
  rw [hat] at hcd hcd2
  rw [if_pos h2,hci,Int.toNat_natCast]
  rw [hcl,qk hcd.1] at hcd ⊢
  obtain ⟨_,d5,d6⟩:=zc hcd.2
  have q:(c.op == 2) = true:=beq_iff_eq.2 h2
  refine qd QK mixm (by simp) fun e _ hst=>qg ?_
  unfold kE
  simp only [tZ,↓un_u,simprocAttr,q,hci,Int.toNat_natCast,qe hil,qe hcd.1]
  refine ⟨by omega,by omega,?_⟩
  refine C1.im (qS4 _ v c.code (by omega)) (by rfl) (by rfl) ?_
  refine sW ?_
  refine ⟨by kernel_rfl,fun h=>?_,fun h=>?_⟩
  ·rw [h]
   exact .oA [] []
  ·rw [h]
   exact .oA [] []
 have q:(c.op == 2) = false:=beq_eq_false_iff_ne.2 h2
 rw [if_neg h2]
 by_cases h3:c.op = 3
 ·have q3:(c.op == 3) = true:=beq_iff_eq.2 h3
  rw [if_pos h3]
  refine qd QK mixm (by simp) fun e _ hst=>qg ?_
  unfold kE
  simp only [tZ,↓un_u,simprocAttr,q,q3,beq_iff_eq,beq_eq_false_iff_ne]
  rw [show (-1099511627776:Int) = kT from rfl]
  refine ⟨fun h=>?_,fun h=>?_⟩
  ·rw [if_pos h]
   exact .oA [] []
  ·rw [if_neg h]
   refine ⟨fun h=>?_,fun h=>?_⟩
   ·rw [h]
    exact .oA [] []
   ·rw [h]
    exact .oA [] []
 have q3:(c.op == 3) = false:=beq_eq_false_iff_ne.2 h3
 rw [if_neg h3]
 by_cases h4:c.op = 4
 ·have q4:(c.op == 4) = true:=beq_iff_eq.2 h4
  rw [if_pos h4]
  refine qd QK mixm (by simp) fun e _ hst=>qg ?_
  unfold kE
  simp only [tZ,↓un_u,simprocAttr,q,q3,q4]
  rw [show (-1099511627776:Int) = kT from rfl]
  refine ⟨fun h=>?_,fun h=>?_⟩
  ·rw [h]
   exact .oA [] []
  ·rw [h]
   exact .oA [] []
 have q4:(c.op == 4) = false:=beq_eq_false_iff_ne.2 h4
 rw [if_neg h4]
 refine qd QK mixm (by simp) fun e _ hst=>qg ?_
 unfold kE
 simp only [tZ,↓un_u,simprocAttr,q,q3,q4]
 exact .oA [] []
theorem JD:∀ c m,1≤m→cntC c m < m→((atsC c).length:Int)≤cntC c m:=by
 refine Cnd.ind' fun c ih m hm h=>?_
 have hc:=qr2 c m hm
 rw [KP]
 split
 ·simp;omega
 ·rw [Qw] at h ⊢
  have key:∀ l:List Cnd,(∀ k∈l,k∈c.kids)→∀ n,1≤n→n≤m→jV l m n < m→n + (Qx l).length≤jV l m n:=by
   intro l
   induction l with
   | nil=>intro _ n h1 h2 _;rw [jV,Qx];simp
   | cons k r ihl=>
     intro hk n h1 h2 h3
     rw [jV] at h3 ⊢
     rw [Qx,List.length_append]
     split at h3
     ·rename_i h4
      rw [if_pos h4]
      have c1:=qr2 k (m - n) (by omega)
      have c2:=qT3 r m (n + cntC k (m - n)) (by omega)
      have c3:=ih k (hk k (by simp)) (m - n) (by omega) (by omega)
      have c4:=ihl (fun x hx=>hk x (List.mem_cons_of_mem _ hx)) (n + cntC k (m - n)) (by omega) (by omega) h3
      omega
     ·omega
  have:=key c.kids (fun k hk=>hk) 1 (by omega) hm h
  omega
theorem jE:∀ (l:List Cnd) (i:Nat),(Qx (l.take i)).length≤(Qx l).length
 | [],i=>by simp
 | x :: r,0=>by simp [Qx]
 | x :: r,i + 1=>by rw [List.take_succ_cons,Qx,Qx,List.length_append,List.length_append];have:=jE r i;omega
theorem KW (l:List Cnd):ImXs 6 (l.map cndT):=qz zZ6 l
theorem JE {st:Sto} {ρ:Ren} {B:List Nat} (l:List Cnd):ltXs st ρ B 6 (l.map cndT) (l.map cndT):=yY (KW l)
theorem qj8:∀ (c:Cnd) (m:Int),1≤m→m≤1000→cntC c m < m→Spc Tryz.prog kz [cnT c] [] (vCs (atsC c)) []:=by
 refine Cnd.ind' fun c ih m hm hm2 hc=>?_
 have hal:=JD c m hm hc
 rw [Qw] at hc hal
 obtain ⟨hk1,hk2⟩:=Yw (by omega) hc
 have hi:isAt c = ((c.op == 2) || (c.op == 3) || (c.op == 4)):=rfl
 refine qd YW mixm (by simp) fun e _ hst=>qg ?_
 unfold yU
 refine sW ?_
 rw [← hi]
 refine ⟨fun h=>?_,fun h=>?_⟩
 ·rw [KP,if_pos h]
  show Qd [] _ _ (.sl 6 [cndT c]) []
  rw [zg]
  exact .oA [] [12292]
 ·rw [KP,if_neg (by rw [h];simp)] at hal ⊢
  refine qw mixm (α:=Nat) [3,4,17] (fun i=>i≤c.kids.length) (fun i=>[(3,.asl 1 (Qx (c.kids.take i)).length),(4,vI i)]) (fun i=>[(4096,.arr 6 [cnT c] false),(1,.arr 6 ((Qx (c.kids.take i)).map cndT) false)]) (fun i=>c.kids.length - i) 0 (by omega) ?_ fun i hi2=>?_
  ·exact .oA [(4096,some 4096),(1,none)] []
  have htl:=jE c.kids i
  refine sD ?_
  refine ⟨fun h5=>?_,fun h5=>?_⟩
  ·have hi2:i < c.kids.length:=by omega
   have hwi:=qj (i:=i) (by omega)
   obtain ⟨m',a1,a2,a3⟩:=hk2 _ (List.getElem_mem hi2)
   have htl2:=jE c.kids (i + 1)
   rw [qR hi2,yN,List.length_append] at htl2
   simp only [tZ,↓un_u,simprocAttr,Int.toNat_natCast,qe hi2,zg]
   refine ⟨by omega,?_⟩
   refine C1.im (ih _ (List.getElem_mem hi2) m' a1 (by omega) a3) (by rfl) (by rfl) ?_
   simp only [tZ,↓un_u,simprocAttr,hwi]
   refine ⟨by omega,i + 1,by omega,by omega,?_⟩
   rw [qR hi2,yN,List.map_append]
   refine .of [(4096,some 4096),(1,some 1)] [] rfl (by first | rfl | (rw [hst];rfl)) ?_ ?_
   all_goals (try simp only [tL,simprocAttr,List.map_append,List.map_cons,List.map_nil,List.cons_append,List.nil_append,List.append_assoc])
   all_goals (try (repeat' (first | exact qT | (apply zj;intro _;exact ⟨rfl,rfl⟩) | (apply qz;intro _;exact ⟨rfl,rfl⟩) | with_reducible apply qJ | with_reducible refine qM ⟨rfl,rfl⟩ ?_ | exact qW | with_reducible apply qE | with_reducible refine qK ⟨rfl,rfl,?_⟩ ?_ | with_reducible apply And.intro | exact qG rfl | exact qG (by assumption) | (refine ⟨⟨?_,rfl,?_,rfl,?_⟩,trivial⟩ <;> first | (simp;done) | (apply qz;intro _;exact ⟨rfl,rfl⟩)) | trivial | rfl | (rw [qj (by omega)]) | omega)))
   all_goals first | exact JE _ | exact KW _
  ·have hil:i = c.kids.length:=by omega
   subst hil
   rw [List.take_length]
   refine .of [] [1] rfl (by first | rfl | (rw [hst];rfl)) ?_ ?_
   all_goals (try simp only [tL,simprocAttr,List.map_append,List.map_cons,List.map_nil,List.cons_append,List.nil_append,List.append_assoc])
   all_goals (try (repeat' (first | exact qT | (apply zj;intro _;exact ⟨rfl,rfl⟩) | (apply qz;intro _;exact ⟨rfl,rfl⟩) | with_reducible apply qJ | with_reducible refine qM ⟨rfl,rfl⟩ ?_ | exact qW | with_reducible apply qE | with_reducible refine qK ⟨rfl,rfl,?_⟩ ?_ | with_reducible apply And.intro | exact qG rfl | exact qG (by assumption) | (refine ⟨⟨?_,rfl,?_,rfl,?_⟩,trivial⟩ <;> first | (simp;done) | (apply qz;intro _;exact ⟨rfl,rfl⟩)) | trivial | rfl | (rw [qj (by omega)]) | omega)))
   all_goals first | exact JE _ | exact KW _
end Go.Proofs
namespace Go.Proofs
open Go Go.TL
set_option maxRecDepth 4000
set_option maxHeartbeats 8000000
theorem qp2:∀ (c:Cnd) (m:Int),0≤m→m≤1000→Spc Tryz.prog kC [cnT c,vI m] [] (vI (cntC c (m + 1))) []:=by
 refine Cnd.ind' fun c ih m hm hm2=>?_
 rw [Qw]
 refine qd qi1 mixm (by simp) fun e _ hst=>qg ?_
 unfold yk
 refine sW ?_
 refine qw mixm (α:=Nat×Int) [5,11] (fun y=>y.1≤c.kids.length∧jV c.kids (m + 1) 1 = jV (c.kids.drop y.1) (m + 1) y.2∧y.2≤m + 1∧y.1 + 1≤y.2) (fun y=>[(5,vI y.2),(11,vI y.1)]) (fun y=>[]) (fun y=>c.kids.length - y.1) (0,1) ⟨by simp,rfl,by dsimp only;omega,by simp⟩ ?_ fun y hy=>?_
 ·exact .oA [] []
 obtain ⟨i,n⟩:=y
 obtain ⟨y1,y2,y3,y4⟩:=hy
 dsimp only at y1 y2 y3 y4
 rw [y2]
 refine sD ?_
 refine ⟨fun h=>?_,fun h=>?_⟩
 ·have hi:i < c.kids.length:=by omega
  have hwi:=qj (i:=i) (by omega)
  rw [zl7 hi,jV]
  simp only [tZ,↓un_u,simprocAttr,Int.toNat_natCast,qe hi,zg,tD]
  refine ⟨by omega,fun h2=>?_,fun h2=>?_⟩
  ·rw [if_neg (by omega)]
   exact .oA [] []
  have hw:IntKind.i64.wrap (m - n) = m - n:=IntWalk.i64_in _ (by omega)
  have hc:=qr2 c.kids[i] (m - n + 1) (by omega)
  have e1:m + 1 - n = m - n + 1:=by omega
  have hw2:IntKind.i64.wrap (n + cntC c.kids[i] (m - n + 1)) = n + cntC c.kids[i] (m - n + 1):=IntWalk.i64_in _ (by omega)
  rw [if_pos (by omega),e1]
  simp only [tZ,↓un_u,simprocAttr,hw]
  refine C1.im (ih _ (List.getElem_mem hi) (m - n) (by omega) (by omega)) (by rfl) (by rfl) ?_
  simp only [tZ,↓un_u,simprocAttr,hw2,hwi]
  refine ⟨(i + 1,n + cntC c.kids[i] (m - n + 1)),⟨by dsimp only;omega,rfl,by dsimp only;omega,by dsimp only;omega⟩,by dsimp only;omega,?_⟩
  exact .oA [] []
 ·rw [List.drop_of_length_le (by omega),jV]
  exact .oA [] []
theorem qt7:∀ (c:Cnd) (m:Int),1≤m→m≤1000→cntC c m < m→Spc Tryz.prog wm [cnT c] [] (vI (depC c)) []:=by
 refine Cnd.ind' fun c ih m hm hm2 hc=>?_
 have hd:=zQ5 c m hm hc
 rw [Qw] at hc hd
 obtain ⟨hk1,hk2⟩:=Yw (by omega) hc
 rw [qo4] at hd ⊢
 refine qd qn5 mixm (by simp) fun e _ hst=>qg ?_
 unfold yJ
 refine sW ?_
 refine qw mixm (α:=Nat) [3,9] (fun i=>i≤c.kids.length) (fun i=>[(3,vI (jG (c.kids.take i))),(9,vI i)]) (fun i=>[]) (fun i=>c.kids.length - i) 0 (by omega) ?_ fun i hi=>?_
 ·refine .of [] [] rfl (by first | rfl | (rw [hst];rfl)) ?_ ?_
  all_goals (try simp only [tL,simprocAttr,List.map_append,List.map_cons,List.map_nil,List.cons_append,List.nil_append,List.take_zero,jG])
  all_goals (try (repeat' (first | exact qT | (apply zj;intro _;exact ⟨rfl,rfl⟩) | (apply qz;intro _;exact ⟨rfl,rfl⟩) | with_reducible apply qJ | with_reducible refine qM ⟨rfl,rfl⟩ ?_ | exact qW | with_reducible apply qE | with_reducible refine qK ⟨rfl,rfl,?_⟩ ?_ | with_reducible apply And.intro | exact qG rfl | exact qG (by assumption) | (refine ⟨⟨?_,rfl,?_,rfl,?_⟩,trivial⟩ <;> first | (simp;done) | (apply qz;intro _;exact ⟨rfl,rfl⟩)) | trivial | rfl | (rw [qj (by omega)]) | omega)))
 have hdt:=qo9 c.kids i
 refine sD ?_
 refine ⟨fun h=>?_,fun h=>?_⟩
 ·have hi2:i < c.kids.length:=by omega
  have hwi:=qj (i:=i) (by omega)
  have hs:jG (c.kids.take (i + 1)) = max (jG (c.kids.take i)) (depC c.kids[i]):=by rw [qR hi2,qo8]
  obtain ⟨m',a1,a2,a3⟩:=hk2 _ (List.getElem_mem hi2)
  simp only [tZ,↓un_u,simprocAttr,Int.toNat_natCast,qe hi2,zg]
  refine ⟨by omega,?_⟩
  refine C1.im (ih _ (List.getElem_mem hi2) m' a1 (by omega) a3) (by rfl) (by rfl) ?_
  have hmx:maxI (jG (c.kids.take i):Int) (depC c.kids[i]) = (jG (c.kids.take (i + 1)):Int):=by rw [hs];unfold maxI;omega
  simp only [tZ,↓un_u,simprocAttr,hwi,hmx]
  refine ⟨i + 1,by omega,by omega,?_⟩
  exact .oA [] []
 ·have hil:i = c.kids.length:=by omega
  subst hil
  rw [List.take_length] at hdt ⊢
  have hw:=qj (i:=jG c.kids) (by omega)
  simp only [tZ,↓un_u,simprocAttr,hw]
  exact .oA [] []
theorem qt8 (op:Int):Spc Tryz.prog Qj [vI op] [] (vI (arC op)) []:=by
 refine qd qo1 mixm (by simp) fun e _ hst=>qg ?_
 unfold yM
 simp only [tZ,↓un_u,simprocAttr,Cnd.op,Cnd.col,Cnd.code,Cnd.lo,Cnd.hi,Cnd.kids]
 by_cases h5:op = 5
 ·subst h5
  refine sW ?_
  exact .oA [] []
 by_cases h6:op = 6
 ·subst h6
  refine sW ?_
  exact .oA [] []
 by_cases h7:op = 7
 ·subst h7
  refine sW ?_
  exact .oA [] []
 have e:arC op = 0:=by rw [arC,if_neg (by omega),if_neg h7]
 rw [e]
 simp only [tZ,↓un_u,simprocAttr,beq_eq_false_iff_ne.2 h5,beq_eq_false_iff_ne.2 h6,beq_eq_false_iff_ne.2 h7]
 exact .oA [] []
def unuC (c:Cnd):Bool:=if ((!isAt c && (c.col != 0)) || ((c.op != 2) && (c.code != 0))) = true then false else (c.op == 3) || ((c.lo == 0) && (c.hi == 0))
theorem jk8 {c:Cnd}:unuC c = false↔(c.op≠2∧c.op≠3∧c.op≠4∧c.col≠0)∨(c.op≠2∧c.code≠0)∨(c.op≠3∧(c.lo≠0∨c.hi≠0)):=by
 unfold unuC isAt
 grind
theorem qj9 (c:Cnd):Spc Tryz.prog wY [cnT c] [] (vB (unuC c)) []:=by
 refine qd qc6 mixm (by simp) fun e _ hst=>qg ?_
 unfold wB
 refine sW ?_
 have hi:isAt c = ((c.op == 2) || (c.op == 3) || (c.op == 4)):=rfl
 rw [← hi]
 unfold unuC
 cases h:(!isAt c && (c.col != 0))
 ·simp only [tZ,↓un_u,simprocAttr,h]
  cases h2:((c.op != 2) && (c.code != 0))
  ·simp only [tZ,↓un_u,simprocAttr,h2]
   exact .oA [] []
  ·simp only [tZ,↓un_u,simprocAttr,h2]
   exact .oA [] []
 ·simp only [tZ,↓un_u,simprocAttr,h]
  exact .oA [] []
theorem YN (s:Sch) (hok:SchOk s) (c:Cnd):Spc Tryz.prog kM [schT s,cnT c] [] (vI (ndE s c)) []:=by
 have hn0:=hok.nl
 have hn1:=hok.nc
 have hn:ndE s c = if c.op < 1∨7 < c.op then 4
 else if c.kids.length≠arC c.op∨(c.op≠2∧c.op≠3∧c.op≠4∧c.col≠0)∨(c.op≠2∧c.code≠0)∨(c.op≠3∧(c.lo≠0∨c.hi≠0)) then 11
 else if (c.op = 2∧isB s c.col 2 = false)∨(c.op = 3∧isB s c.col 3 = false)∨(c.op = 4∧(isB s c.col 3 = false∨(qh s c.col.toNat).opt = false)) then 7
 else if c.op = 2∧(c.code < 0∨c.code≥(qH s c.col.toNat).codes.length) then 6
 else if c.op = 3∧(c.lo < -1000000∨c.hi > 1000000∨c.lo > c.hi) then 2 else 0:=rfl
 have hu:=@jk8 c
 generalize ndE s c = E at hn ⊢
 refine qd WZ mixm (by simp) fun e _ hst=>qg ?_
 unfold kj
 refine sD ?_
 refine ⟨fun h=>?_,fun h=>?_⟩
 ·rw [if_pos (by omega)] at hn
  rw [hn]
  exact .oA [] []
 rw [if_neg (by omega)] at hn
 refine C1.im (qt8 c.op) (by rfl) (by rfl) ?_
 refine sW ?_
 refine C2.im (fun _=>qj9 c) (fun _=>rfl) (by rfl) ?_
 simp only [tZ,↓un_u,simprocAttr,bne_iff_ne,bne_eq_false_iff_eq,Bool.not_eq_true',Bool.not_eq_false']
 repeat (first | refine ⟨by omega,?_⟩ | refine ⟨by kernel_rfl,?_⟩)
 refine ⟨fun h2=>?_,fun h2=>?_⟩
 ·rw [if_pos (by grind)] at hn
  rw [hn]
  exact .oA [] []
 rw [if_neg (by grind)] at hn
 by_cases hat:c.op≠2∧c.op≠3∧c.op≠4
 ·rw [if_neg (by omega),if_neg (by omega),if_neg (by omega)] at hn
  rw [hn]
  simp only [tZ,↓un_u,simprocAttr,bne_iff_ne.2 hat.1,bne_iff_ne.2 hat.2.1,bne_iff_ne.2 hat.2.2]
  exact .oA [] []
 have e1:((c.op != 2) && (c.op != 3) && (c.op != 4)) = false:=by
  cases e:((c.op != 2) && (c.op != 3) && (c.op != 4)) with
  | false=>rfl
  | true=>exact absurd (by simpa [and_assoc] using e) hat
 simp only [tZ,↓un_u,simprocAttr,e1,tD]
 refine ⟨fun h3=>?_,fun h3=>?_⟩
 ·have b2:isB s c.col 2 = false:=by
   cases e:isB s c.col 2 with
   | false=>rfl
   | true=>have:=zQ.1 e;omega
  have b3:isB s c.col 3 = false:=by
   cases e:isB s c.col 3 with
   | false=>rfl
   | true=>have:=zQ.1 e;omega
  rw [b2,b3,if_pos (by grind)] at hn
  rw [hn]
  exact .oA [] []
 obtain ⟨i,hci⟩:=Int.eq_ofNat_of_zero_le (show 0≤c.col by omega)
 have hil:i < s.cols.length:=by omega
 have hat2:qh s i = s.cols[i]:=by rw [qh,qk hil]
 have hcd:=fun e=>hok.cdl hil e
 have hcd2:=(za (hok.cs i hil)).2.2.2.1
 have hcl:qH s i = s.lists.getD s.cols[i].list.toNat default:=by rw [qH,hat2]
 have hB:∀ k,isB s c.col k = (s.cols[i].kind == k):=fun k=>by
  rw [isB,hci,Int.toNat_natCast,hat2,decide_eq_true (by omega),decide_eq_true (by omega)];rfl
 rw [hB,hB,hci,Int.toNat_natCast,hcl,hat2] at hn
 rw [hat2,hcl] at hcd
 rw [hat2] at hcd2
 simp only [tZ,↓un_u,simprocAttr,hci,Int.toNat_natCast,qe hil]
 generalize s.cols[i] = x at hn hcd hcd2 ⊢
 simp only [tZ,↓un_u,simprocAttr,beq_iff_eq,beq_eq_false_iff_ne,bne_iff_ne,bne_eq_false_iff_eq]
 refine ⟨by omega,fun h4=>⟨fun h5=>?_,fun h5=>?_⟩,fun h4=>⟨fun h5=>⟨fun h6=>?_,fun h6=>?_⟩,fun h5=>?_⟩⟩
 ·rw [if_pos (by grind)] at hn
  rw [hn]
  exact .oA [] []
 ·rw [if_neg (by grind)] at hn
  obtain ⟨d1,d2⟩:=hcd h5
  obtain ⟨d3,d4⟩:=hcd2 h5
  rw [qk d1] at hn
  simp only [tZ,↓un_u,simprocAttr,qe d1,tD]
  generalize s.lists[x.list.toNat] = l at hn
  repeat (first | refine ⟨by omega,?_⟩ | refine ⟨by kernel_rfl,?_⟩)
  refine ⟨fun h6=>?_,fun h6=>?_⟩
  ·rw [if_pos (by grind)] at hn
   rw [hn]
   exact .oA [] []
  ·rw [if_neg (by grind),if_neg (by grind)] at hn
   rw [hn]
   exact .oA [] []
 ·rw [if_pos (by grind)] at hn
  rw [hn]
  exact .oA [] []
 ·rw [if_neg (by grind),if_neg (by grind)] at hn
  refine sD ?_
  refine ⟨fun h7=>?_,fun h7=>?_⟩
  ·rw [if_pos (by grind)] at hn
   rw [hn]
   exact .oA [] []
  ·rw [if_neg (by grind)] at hn
   rw [hn]
   exact .oA [] []
 ·refine ⟨fun h6=>?_,fun h6=>by omega⟩
  refine ⟨fun h7=>?_,fun h7=>?_⟩
  ·rw [if_pos (by grind)] at hn
   rw [hn]
   exact .oA [] []
  ·rw [if_neg (by grind),if_neg (by grind),if_neg (by grind)] at hn
   rw [hn]
   exact .oA [] []
theorem jq7 (op:Int):arC op≤2:=by
 unfold arC
 split
 ·omega
 ·split <;> omega
theorem YO (s:Sch) (hok:SchOk s):∀ (c:Cnd),Spc Tryz.prog ji [schT s,cnT c] [] (vI (nodE s c)) []:=by
 refine Cnd.ind' fun c ih=>?_
 have hN:=qT1 s c
 generalize nodE s c = N at hN ⊢
 refine qd WV mixm (by simp) fun e _ hst=>qg ?_
 unfold kh
 refine sW ?_
 refine C1.im (YN s hok c) (by rfl) (by rfl) ?_
 simp only [tZ,↓un_u,simprocAttr,bne_iff_ne,bne_eq_false_iff_eq]
 refine ⟨fun h=>?_,fun h=>?_⟩
 ·rw [hN,if_pos h]
  exact .oA [] []
 rw [if_neg (by rw [h];simp)] at hN
 have hnk:=(jg3 h).nk
 have har:=jq7 c.op
 rw [hN]
 refine qw mixm (α:=Nat) [18] (fun i=>i≤c.kids.length∧(yq s (c.kids.take i) = 0)) (fun i=>[(18,vI i)]) (fun i=>[(4096,.arr 2 [schT s] false)]) (fun i=>c.kids.length - i) 0 ⟨by omega,?_⟩ ?_ fun i hi=>?_
 ·rfl
 ·exact .oA [(4096,some 4096)] []
 simp only [tZ,↓un_u,simprocAttr,decide_eq_true_eq,decide_eq_false_iff_not]
 refine ⟨fun h=>?_,fun h=>?_⟩
 ·have hi2:i < c.kids.length:=by omega
  have hi2:i < c.kids.length:=by omega
  have hwi:=qj (i:=i) (by omega)
  simp only [tZ,↓un_u,simprocAttr,Int.toNat_natCast,qe hi2,hwi,zg]
  refine ⟨by omega,?_⟩
  refine C1.im (ih _ (List.getElem_mem hi2)) (by rfl) (by rfl) ?_
  simp only [tZ,↓un_u,simprocAttr,bne_iff_ne,bne_eq_false_iff_eq]
  refine ⟨fun h6=>?_,fun h6=>?_⟩
  ·rw [qd0 hi2 hi.2 h6]
   exact .oA [] []
  ·refine ⟨i + 1,⟨by omega,by rw [qR hi2];exact qp0 hi.2 h6⟩,by omega,?_⟩
   exact .oA [(4096,some 4096)] []
 ·have hi2:i = c.kids.length:=by omega
  subst hi2
  rw [List.take_of_length_le (by omega)] at hi
  rw [hi.2]
  exact .oA [] []
theorem yO (s:Sch) (hs:QO s) (c:Cnd):Spc Tryz.prog jl [schT s,cnT c] [] (vI (chkC s c)) []:=by
 refine qd qh7 mixm (by simp) fun e _ hst=>qg ?_
 unfold yi
 refine sW ?_
 refine C1.im (wg s hs.2.1 hs.1) (by rfl) (by rfl) ?_
 simp only [tZ,↓un_u,simprocAttr,bne_iff_ne,bne_eq_false_iff_eq]
 refine ⟨fun h=>?_,fun h=>?_⟩
 ·rw [chkC,if_pos h]
  exact .oA [] []
 have hok:=qZ h
 refine C1.im (qp2 c 40 (by omega) (by omega)) (by rfl) (by rfl) ?_
 rw [show (40:Int) + 1 = 41 from rfl]
 refine sD ?_
 refine ⟨fun h2=>?_,fun h2=>?_⟩
 ·rw [chkC,if_neg (by rw [h];simp),if_pos h2]
  exact .oA [] []
 refine C1.im (qt7 c 41 (by omega) (by omega) (by omega)) (by rfl) (by rfl) ?_
 refine sD ?_
 refine ⟨fun h3=>?_,fun h3=>?_⟩
 ·rw [chkC,if_neg (by rw [h];simp),if_neg h2,if_pos (by omega)]
  exact .oA [] []
 rw [chkC,if_neg (by rw [h];simp),if_neg h2,if_neg (by omega)]
 refine C1.im (YO s hok c) (by rfl) (by rfl) ?_
 refine sW ?_
 exact .oA [] []
theorem yP (b:Bool):Spc Tryz.prog jn [vB b] [] (vI (tf b)) []:=by
 refine qd qi3 mixm (by simp) fun e _ hst=>qg ?_
 unfold yl
 refine sW ?_
 cases b
 ·refine sW ?_
  exact .oA [] []
 ·refine sW ?_
  exact .oA [] []
theorem KX (s:Sch) (hok:SchOk s) (c:Cnd) (hc:NdOk s c) (ha:isAt c = true) (v:Int):Spc Tryz.prog jF [schT s,cnT c,vI v] [] (vI (zT s c v)) []:=by
 have hn0:=hok.nl
 have hn1:=hok.nc
 have hA:zT s c v = if c.op = 2 then tf (Yb (qH s c.col.toNat) v c.code)
 else if c.op = 3 then (if v = kT then 0 else tf (decide (c.lo≤v) && decide (v≤c.hi)))
 else if c.op = 4 then tf (v == kT) else -1:=rfl
 rw [hA]
 by_cases h2:c.op = 2
 ·obtain ⟨b,b4,b5⟩:=hc.under h2
  obtain ⟨b1,b2,b3⟩:=zQ.1 b
  obtain ⟨i,hci⟩:=Int.eq_ofNat_of_zero_le b1
  rw [hci] at b2 b5
  rw [hci,Int.toNat_natCast] at b3
  rw [Int.toNat_natCast] at b5
  have hil:i < s.cols.length:=by omega
  have hat:qh s i = s.cols[i]:=by rw [qh,qk hil]
  have hcd:=hok.cdl hil b3
  have hcd2:=(za (hok.cs i hil)).2.2.2.1 b3
  have hcl:qH s i = s.lists.getD s.cols[i].list.toNat default:=by rw [qH,hat]
  rw [hat] at hcd hcd2
  rw [if_pos h2,hci,Int.toNat_natCast]
  rw [hcl,qk hcd.1] at hcd ⊢
  have q:(c.op == 2) = true:=beq_iff_eq.2 h2
  refine qd yF mixm (by simp) fun e _ hst=>qg ?_
  unfold jq
  simp only [tZ,↓un_u,simprocAttr,q,hci,Int.toNat_natCast,qe hil,qe hcd.1]
  refine ⟨by omega,by omega,?_⟩
  refine C1.im (qT0 _ v c.code) (by rfl) (by rfl) ?_
  refine sW ?_
  repeat (first | refine ⟨by omega,?_⟩ | refine ⟨by kernel_rfl,?_⟩)
  refine C1.im (yP _) (by rfl) (by rfl) ?_
  refine sW ?_
  repeat (first | refine ⟨by omega,?_⟩ | refine ⟨by kernel_rfl,?_⟩)
  exact .oA [] []
 have q:(c.op == 2) = false:=beq_eq_false_iff_ne.2 h2
 rw [if_neg h2]
 by_cases h4:c.op = 4
 ·have q4:(c.op == 4) = true:=beq_iff_eq.2 h4
  rw [if_neg (by omega),if_pos h4]
  refine qd yF mixm (by simp) fun e _ hst=>qg ?_
  unfold jq
  simp only [tZ,↓un_u,simprocAttr,q,q4]
  rw [show (-1099511627776:Int) = kT from rfl]
  refine C1.im (yP _) (by rfl) (by rfl) ?_
  refine sW ?_
  exact .oA [] []
 have q4:(c.op == 4) = false:=beq_eq_false_iff_ne.2 h4
 have h3:c.op = 3:=by
  unfold isAt at ha
  rw [q,q4] at ha
  simpa using ha
 rw [if_pos h3]
 refine qd yF mixm (by simp) fun e _ hst=>qg ?_
 unfold jq
 simp only [tZ,↓un_u,simprocAttr,q,q4,beq_iff_eq,beq_eq_false_iff_ne]
 rw [show (-1099511627776:Int) = kT from rfl]
 refine ⟨fun h=>?_,fun h=>?_⟩
 ·rw [if_pos h]
  exact .oA [] []
 ·rw [if_neg h]
  refine C1.im (yP _) (by rfl) (by rfl) ?_
  refine sW ?_
  exact .oA [] []
theorem JW:∀ (c:Cnd) (m:Int),1≤m→m≤1000→cntC c m < m→Spc Tryz.prog jm [cnT c] [] (vCs (atsC c)) []:=by
 refine Cnd.ind' fun c ih m hm hm2 hc=>?_
 have hal:=JD c m hm hc
 rw [Qw] at hc hal
 obtain ⟨hk1,hk2⟩:=Yw (by omega) hc
 have hi:isAt c = ((c.op == 2) || (c.op == 3) || (c.op == 4)):=rfl
 refine qd qh9 mixm (by simp) fun e _ hst=>qg ?_
 unfold yj
 refine sW ?_
 rw [← hi]
 refine ⟨fun h=>?_,fun h=>?_⟩
 ·rw [KP,if_pos h]
  show Qd [] _ _ (.sl 6 [cndT c]) []
  rw [zg]
  exact .oA [] [12292]
 ·rw [KP,if_neg (by rw [h];simp)] at hal ⊢
  refine qw mixm (α:=Nat) [3,24,18] (fun i=>i≤c.kids.length) (fun i=>[(3,.asl 1 (Qx (c.kids.take i)).length),(24,vI i)]) (fun i=>[(1,.arr 6 ((Qx (c.kids.take i)).map cndT) false)]) (fun i=>c.kids.length - i) 0 (by omega) ?_ fun i hi2=>?_
  ·exact .oA [(1,none)] []
  have htl:=jE c.kids i
  refine sD ?_
  refine ⟨fun h5=>?_,fun h5=>?_⟩
  ·have hi2:i < c.kids.length:=by omega
   have hwi:=qj (i:=i) (by omega)
   obtain ⟨m',a1,a2,a3⟩:=hk2 _ (List.getElem_mem hi2)
   have htl2:=jE c.kids (i + 1)
   rw [qR hi2,yN,List.length_append] at htl2
   simp only [tZ,↓un_u,simprocAttr,Int.toNat_natCast,qe hi2,zg]
   refine ⟨by omega,?_⟩
   refine C1.im (ih _ (List.getElem_mem hi2) m' a1 (by omega) a3) (by rfl) (by rfl) ?_
   simp only [tZ,↓un_u,simprocAttr,hwi]
   refine ⟨by omega,i + 1,by omega,by omega,?_⟩
   rw [qR hi2,yN,List.map_append]
   refine .of [(1,some 1)] [] rfl (by first | rfl | (rw [hst];rfl)) ?_ ?_
   all_goals (try simp only [tL,simprocAttr,List.map_append,List.map_cons,List.map_nil,List.cons_append,List.nil_append,List.append_assoc])
   all_goals (try (repeat' (first | exact qT | (apply zj;intro _;exact ⟨rfl,rfl⟩) | (apply qz;intro _;exact ⟨rfl,rfl⟩) | with_reducible apply qJ | with_reducible refine qM ⟨rfl,rfl⟩ ?_ | exact qW | with_reducible apply qE | with_reducible refine qK ⟨rfl,rfl,?_⟩ ?_ | with_reducible apply And.intro | exact qG rfl | exact qG (by assumption) | (refine ⟨⟨?_,rfl,?_,rfl,?_⟩,trivial⟩ <;> first | (simp;done) | (apply qz;intro _;exact ⟨rfl,rfl⟩)) | trivial | rfl | (rw [qj (by omega)]) | omega)))
   all_goals first | exact JE _ | exact KW _
  ·have hil:i = c.kids.length:=by omega
   subst hil
   rw [List.take_length]
   refine .of [] [1] rfl (by first | rfl | (rw [hst];rfl)) ?_ ?_
   all_goals (try simp only [tL,simprocAttr,List.map_append,List.map_cons,List.map_nil,List.cons_append,List.nil_append,List.append_assoc])
   all_goals (try (repeat' (first | exact qT | (apply zj;intro _;exact ⟨rfl,rfl⟩) | (apply qz;intro _;exact ⟨rfl,rfl⟩) | with_reducible apply qJ | with_reducible refine qM ⟨rfl,rfl⟩ ?_ | exact qW | with_reducible apply qE | with_reducible refine qK ⟨rfl,rfl,?_⟩ ?_ | with_reducible apply And.intro | exact qG rfl | exact qG (by assumption) | (refine ⟨⟨?_,rfl,?_,rfl,?_⟩,trivial⟩ <;> first | (simp;done) | (apply qz;intro _;exact ⟨rfl,rfl⟩)) | trivial | rfl | (rw [qj (by omega)]) | omega)))
   all_goals first | exact JE _ | exact KW _
end Go.Proofs
namespace Go.Proofs
open Go Go.TL
set_option maxHeartbeats 4000000
theorem zf3 (col lev:Int):∀ (l:List Pk) (x:List Pk×Bool),(l.foldl (qJ0 col lev) x).1.length + (if (l.foldl (qJ0 col lev) x).2 = true then 0 else 1)≤x.1.length + (if x.2 = true then 0 else 1) + l.length
 | [],x=>Nat.le_refl _
 | p :: r,x=>by
   have h:=zf3 col lev r (qJ0 col lev x p)
   have h2:(qJ0 col lev x p).1.length + (if (qJ0 col lev x p).2 = true then 0 else 1)≤x.1.length + (if x.2 = true then 0 else 1) + 1:=by
    unfold qJ0
    obtain ⟨a,b⟩:=x
    dsimp only
    split <;> split <;> cases b <;> simp_all <;> omega
   rw [List.foldl_cons,List.length_cons]
   omega
theorem qk0 (l:List Pk) (col lev:Int):(YM l col lev).length≤l.length + 1:=by
 have h:=zf3 col lev l ([],decide (lev≤0))
 unfold YM
 dsimp only at h ⊢
 split
 ·simp_all
  split at h <;> omega
 ·rename_i k
  rw [if_neg k] at h
  rw [List.length_append]
  simp at h ⊢
  split at h <;> omega
theorem zf4:∀ {a b:List Cnd},a.length≠b.length→wh a b = false
 | [],[],h=>by simp at h
 | x :: r,y :: t,h=>by rw [wh,zf4 (a:=r) (b:=t) (by simpa using h),Bool.and_false]
 | [],y :: t,_=>rfl
 | x :: r,[],_=>rfl
theorem qC6:∀ {a b:List Cnd} {i:Nat} (ha:i < a.length) (hb:i < b.length),wh (a.take (i + 1)) (b.take (i + 1)) = (wh (a.take i) (b.take i) && JA a[i] b[i])
 | x :: r,y :: t,0,_,_=>by simp [wh]
 | x :: r,y :: t,i + 1,ha,hb=>by
   rw [List.take_succ_cons,List.take_succ_cons,wh,qC6 (a:=r) (b:=t) (by simpa using ha) (by simpa using hb),List.take_succ_cons,List.take_succ_cons,wh]
   simp [Bool.and_assoc]
theorem qN6:∀ {a b:List Cnd} {i:Nat} (ha:i < a.length) (hb:i < b.length),JA a[i] b[i] = false→wh a b = false
 | x :: r,y :: t,0,_,_,h=>by
   have h:JA x y = false:=h
   rw [wh,h,Bool.false_and]
 | x :: r,y :: t,i + 1,ha,hb,h=>by rw [wh,qN6 (a:=r) (b:=t) (i:=i) (by simpa using ha) (by simpa using hb) h,Bool.and_false]
inductive SmC:Cnd→Prop
 | mk (c:Cnd) (h1:c.kids.length < 4611686018427387904) (h2:∀ k∈c.kids,SmC k):SmC c
theorem zf5:∀ (a b:Cnd),(a.kids.length = b.kids.length→SmC a)→Spc Tryz.prog ZN [cnT a,cnT b] [] (vB (JA a b)) []:=by
 refine Cnd.ind' fun a ih b hs=>?_
 rw [qT2]
 refine qd qS0 mixm (by simp) fun e _ hst=>qg ?_
 unfold KH
 simp only [tZ,↓un_u,simprocAttr,tD,bne_iff_ne,bne_eq_false_iff_eq]
 refine ⟨fun h=>?_,fun h=>?_⟩
 ·have:((a.op == b.op) && (a.col == b.col) && (a.code == b.code) && (a.lo == b.lo) && (a.hi == b.hi) && wh a.kids b.kids) = false:=by
   rcases h with ((((h | h) | h) | h) | h) | h
   ·rw [beq_eq_false_iff_ne.2 h];simp
   ·rw [beq_eq_false_iff_ne.2 h];simp
   ·rw [beq_eq_false_iff_ne.2 h];simp
   ·rw [beq_eq_false_iff_ne.2 h];simp
   ·rw [beq_eq_false_iff_ne.2 h];simp
   ·rw [zf4 (by omega)];simp
  rw [this]
  exact .oA [] []
 have e:((a.op == b.op) && (a.col == b.col) && (a.code == b.code) && (a.lo == b.lo) && (a.hi == b.hi) && wh a.kids b.kids) = wh a.kids b.kids:=by
  rw [beq_iff_eq.2 h.1.1.1.1.1,beq_iff_eq.2 h.1.1.1.1.2,beq_iff_eq.2 h.1.1.1.2,beq_iff_eq.2 h.1.1.2,beq_iff_eq.2 h.1.2];simp
 have hl:a.kids.length = b.kids.length:=by omega
 obtain ⟨_,s1,s2⟩:=hs hl
 rw [e]
 refine qw mixm (α:=Nat) [5,47] (fun i=>i≤a.kids.length∧wh (a.kids.take i) (b.kids.take i) = true) (fun i=>[(5,vI i)]) (fun i=>[(4096,.arr 6 [cnT a] false),(4100,.arr 6 [cnT b] false)]) (fun i=>a.kids.length - i) 0 ⟨by omega,by simp [wh]⟩ ?_ fun i hi=>?_
 ·exact .oA [(4096,some 4096),(4100,some 4100)] []
 refine sD ?_
 refine ⟨fun h5=>?_,fun h5=>?_⟩
 ·have hi2:i < a.kids.length:=by omega
  have hib:i < b.kids.length:=by omega
  have hwi:=qj (i:=i) (by omega)
  simp only [tZ,↓un_u,simprocAttr,Int.toNat_natCast,qe hi2,qe hib,zg]
  refine ⟨by omega,by omega,?_⟩
  refine C1.im (ih _ (List.getElem_mem hi2) b.kids[i] fun _=>s2 _ (List.getElem_mem hi2)) (by rfl) (by rfl) ?_
  simp only [tZ,↓un_u,simprocAttr,Bool.not_eq_true',Bool.not_eq_false',hwi]
  refine ⟨by kernel_rfl,fun h6=>?_,fun h6=>?_⟩
  ·rw [qN6 hi2 hib h6]
   exact .oA [] []
  ·refine ⟨i + 1,⟨by omega,by rw [qC6 hi2 hib,hi.2,h6];rfl⟩,by omega,?_⟩
   exact .oA [(4096,some 4096),(4100,some 4100)] []
 ·have hil:i = a.kids.length:=by omega
  have h2:=hi.2
  rw [hil,List.take_length,hl,List.take_length] at h2
  rw [h2]
  exact .oA [] []
end Go.Proofs
namespace Go.Proofs
open Go Go.TL
set_option maxHeartbeats 4000000
theorem qd1 {s:Sch} (hE:schE s = 0) {i:Nat} (h1:0 < i) (h2:i < s.cols.length) (hk:(qh s i).kind = 2) {v:Int} (hv:v∈qQ s i):qO s i (finI s i) v = v:=by
 have hok:=qZ hE
 obtain ⟨d1,d2⟩:=hok.cdl h2 hk
 have hf:finI s i = zk (qH s i) - 1:=by
  rw [finI,if_neg (by omega),Int.toNat_natCast,if_pos hk]
 have hh:=QX hk d2 hv
 obtain ⟨j,j1,j2,rfl⟩:=(zl4 d2).1 hv
 rw [qO,if_neg,Int.toNat_natCast,if_pos hk,if_neg (by rw [hh];simp),upC,if_neg,hf,← j2,Int.toNat_natCast,Int.toNat_natCast,zv0 (by omega)]
 ·rw [hf,← j2,Int.toNat_natCast];omega
 ·rw [Bool.not_eq_false,QA,hf,← j2];omega
theorem jk9 {s:Sch} (hE:schE s = 0) {c:Cnd} (hnd:NdOk s c) (ha:isAt c = true):0≤finI s c.col∧decB s c (finI s c.col).toNat = true:=by
 have hok:=qZ hE
 have hlv:∀ k,isB s c.col k = true→2≤k→∃ i:Nat,c.col = i∧0 < i∧i < s.cols.length∧(qh s i).kind = k:=fun k hb hk=>by
  obtain ⟨b1,b2,b3⟩:=zQ.1 hb
  obtain ⟨i,hci⟩:=Int.eq_ofNat_of_zero_le b1
  rw [hci,Int.toNat_natCast] at b3
  refine ⟨i,hci,?_,by omega,b3⟩
  refine Nat.pos_of_ne_zero fun e=>?_
  subst e
  have:=hok.c0
  omega
 have hm:∀ i:Nat,0 < i→i < s.cols.length→(qh s i).kind = 3→finI s i = (qh s i).widths.length∧1≤(qh s i).widths.length:=fun i h1 h2 h3=>by
  refine ⟨by rw [finI,if_neg (by omega),Int.toNat_natCast,if_neg (by omega)],?_⟩
  have:=(za (hok.cs i h2)).2.2.2.2 h3
  unfold measE at this
  grind
 have hop:c.op = 2∨c.op = 3∨c.op = 4:=by
  unfold isAt at ha
  simp only [Bool.or_eq_true,beq_iff_eq] at ha
  omega
 rcases hop with h | h | h
 ·obtain ⟨i,hci,h1,h2,hk⟩:=hlv 2 (hnd.under h).1 (by omega)
  obtain ⟨d1,d2⟩:=hok.cdl h2 hk
  have hf:finI s i = zk (qH s i) - 1:=by
   rw [finI,if_neg (by omega),Int.toNat_natCast,if_pos hk]
  have hf0:0≤finI s i:=by rw [hf,qj1 d2];omega
  rw [hci]
  refine ⟨hf0,?_⟩
  rw [decB,if_pos h,hci,Int.toNat_natCast,qB8,List.all_eq_true]
  intro j hj
  rw [List.mem_range] at hj
  rw [List.all_eq_true]
  intro k hk2
  rw [List.mem_range] at hk2
  have e:(((finI s i).toNat:Nat):Int) = finI s i:=by omega
  rw [decP,hci,Int.toNat_natCast,e,qk hj,qk (by omega),qd1 hE h1 h2 hk (List.getElem_mem _),qd1 hE h1 h2 hk (List.getElem_mem _)]
  grind
 ·obtain ⟨i,hci,h1,h2,hk⟩:=hlv 3 (hnd.between h).1 (by omega)
  obtain ⟨m1,m2⟩:=hm i h1 h2 hk
  have hw:=hok.wid h2 h1 (by omega) (lev:=(qh s i).widths.length) (by omega)
  rw [hci,m1]
  refine ⟨by omega,?_⟩
  rw [decB,if_neg (by omega),if_neg (by omega),hci,Int.toNat_natCast,Int.toNat_natCast]
  dsimp only
  rw [if_neg (by omega),hw.2.2.2.2.2.2.2]
  simp
 ·obtain ⟨i,hci,h1,h2,hk⟩:=hlv 3 (hnd.miss h).1 (by omega)
  obtain ⟨m1,m2⟩:=hm i h1 h2 hk
  rw [hci,m1]
  refine ⟨by omega,?_⟩
  rw [decB,if_neg (by omega),if_pos h,Int.toNat_natCast]
  exact decide_eq_true (by omega)
theorem zf6 {s:Sch} (hE:schE s = 0) {c:Cnd} (hnd:NdOk s c) (ha:isAt c = true):(decN s c:Int)≤finI s c.col∧decB s c (decN s c) = true∧(∀ m,m < decN s c→decB s c m = false):=by
 obtain ⟨h1,h2⟩:=jk9 hE hnd ha
 have h3:=qT4 (c:=c.col) hE
 obtain ⟨a,b,_,d⟩:=qB9 h2 64 0 (by omega) (by omega)
 unfold decN
 exact ⟨by omega,a,fun m hm=>d m (by omega) hm⟩
def zf7 (s:Sch):List Pk→Cnd→List Pk:=fun l a=>YM l a.col (decN s a)
theorem zf8 (s:Sch):∀ (L:List Cnd) (l:List Pk),(L.foldl (zf7 s) l).length≤l.length + L.length
 | [],l=>Nat.le_refl _
 | a :: L,l=>by
   have h1:=zf8 s L (zf7 s l a)
   have h2:=qk0 l a.col (decN s a)
   rw [List.foldl_cons,List.length_cons]
   unfold zf7 at h1 ⊢
   omega
end Go.Proofs
