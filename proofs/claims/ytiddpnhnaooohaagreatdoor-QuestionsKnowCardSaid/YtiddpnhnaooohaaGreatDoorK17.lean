/- A part of the proof: trees of Go values, short forms, contracts. -/
import Derived.WalkKit
import Derived.Still
import Derived.MapKept
import GoSem.Builtin.Cap
import Derived.Laws.Externs
import GoSem.Extern.SlicesOverlaps
import Derived.Carry
import Derived.ProofKit
import Derived.OpenShut
import Derived.HandedShaped
import Derived.Lay
import Derived.LaidLaws
import Derived.MakeChecks
import Derived.SevenTiedAt
import Derived.Test.YtiddpnhnaooohaaGreatDoorChecked
import Derived.Test.YtiddpnhnaooohaaGreatDoorK16
set_option linter.unusedSimpArgs false
set_option linter.unusedVariables false
namespace Go.Proofs
open Go Go.TL
set_option maxRecDepth 4000
set_option maxHeartbeats 8000000
theorem qe5:∀ {s:Sch} {l:List Cnd} {i:Nat} (h:i < l.length),yA s (l.take i) = 0→nodE s l[i]≠0→yA s l = nodE s l[i]
 | s,x :: r,0,h,_,h2=>by
   have h2:nodE s x≠0:=h2
   rw [yA,if_pos h2];rfl
 | s,x :: r,i + 1,h,h1,h2=>by
   rw [List.take_succ_cons,yA] at h1
   split at h1
   ·rename_i h3;exact absurd h1 h3
   ·rename_i h3
    rw [yA,if_neg h3]
    exact qe5 (l:=r) (i:=i) (by simpa using h) h1 h2
theorem qq4:∀ {s:Sch} {l:List Cnd} {k:Cnd},yA s l = 0→nodE s k = 0→yA s (l ++ [k]) = 0
 | s,[],k,_,h=>by simp [yA,h]
 | s,x :: r,k,h1,h2=>by
   rw [yA] at h1
   split at h1
   ·rename_i h3;exact absurd h1 h3
   ·rename_i h3
    rw [List.cons_append,yA,if_neg h3]
    exact qq4 h1 h2
theorem SchOk.list0 {s:Sch} (h:SchOk s) {i:Nat} (hi:i < s.cols.length) (hk:(qg s i).kind≠2):(qg s i).list = 0:=by
 have:=h.cs i hi
 unfold colE at this
 grind
theorem zi6 (s:Sch) (hok:SchOk s) (hL:0 < s.lists.length):∀ (c:Cnd),Spc Tryz.prog Jc [schT s,cnT c] [] (vI (nodE s c)) []:=by
 refine Cnd.ind' fun c ih=>?_
 have hN0:=qW0 s c
 have hn0:=hok.nl
 have hn1:=hok.nc
 generalize nodE s c = N at hN0 ⊢
 obtain ⟨op,col,code,lo,hi,ks⟩:=c
 simp only [Cnd.op,Cnd.col,Cnd.code,Cnd.lo,Cnd.hi,Cnd.kids] at ih hN0 ⊢
 have hn:ndE s (.mk op col code lo hi ks) = if op < 1∨7 < op then 4
 else if ks.length≠arC op∨(op≠2∧op≠3∧op≠4∧col≠0)∨(op≠2∧code≠0)∨(op≠3∧(lo≠0∨hi≠0)) then 11
 else if (op = 2∧isB s col 2 = false)∨(op = 3∧isB s col 3 = false)∨(op = 4∧(isB s col 3 = false∨(qg s col.toNat).opt = false)) then 7
 else if op = 2∧(code < 0∨code≥(qG s col.toNat).codes.length) then 6
 else if op = 3∧(lo < -1000000∨hi > 1000000∨lo > hi) then 2 else 0:=rfl
 have hbad:∀ v,v≠0→ndE s (.mk op col code lo hi ks) = v→N = v:=fun v h1 h2=>by rw [hN0,h2,if_pos h1]
 have hgood:ndE s (.mk op col code lo hi ks) = 0→N = yA s ks:=fun h2=>by rw [hN0,h2,if_neg (by simp)]
 clear hN0
 generalize ndE s (.mk op col code lo hi ks) = E at hn hbad hgood
 have h0p:0 < s.cols.length:=by omega
 have hg0:(s.cols.map colT).getD 0 .junk = colT s.cols[0]:=qe (i:=0) h0p
 have hl0:s.cols[0].list.toNat = 0:=by
  have h1:=hok.c0
  have:=hok.list0 (i:=0) h0p (by rw [h1];decide)
  rw [qg,qh h0p] at this
  rw [this];rfl
 have hgl:(s.lists.map cdlT).getD 0 .junk = cdlT s.lists[0]:=qe hL
 have hop:op = 1∨op = 2∨op = 3∨op = 4∨op = 5∨op = 6∨op = 7∨op < 1∨7 < op:=by omega
 rcases hop with e | e | e | e | e | e | e | e
 focus
  have q1:(op == 1) = true:=by rw [e];rfl
  have q2:(op == 2) = false:=by rw [e];rfl
  have q3:(op == 3) = false:=by rw [e];rfl
  have q4:(op == 4) = false:=by rw [e];rfl
  have q5:(op == 5) = false:=by rw [e];rfl
  have q6:(op == 6) = false:=by rw [e];rfl
  have q7:(op == 7) = false:=by rw [e];rfl
  simp [arC,-List.length_eq_zero_iff,e] at hn
  refine qd jf mixm (by simp) fun e _ hst=>qj ?_
  unfold zy
  simp only [tZ,↓un_u,simprocAttr,Cnd.op,Cnd.col,Cnd.code,Cnd.lo,Cnd.hi,Cnd.kids,q1,q2,q3,q4,q5,q6,q7]
  refine ⟨by kernel_rfl,fun h=>?_,fun h=>?_⟩
  ·rw [hbad 11 (by decide) (by rw [hn,if_pos];grind)]
   exact .oA [] []
  have hks:ks.length≤2:=by grind
  rw [hgood (by rw [hn,if_neg];grind)]
  have hc0:col.toNat = 0:=by grind
  refine C2.im (fun _=>qV s col 2) (fun _=>rfl) (by rfl) ?_
  simp only [tZ,↓un_u,simprocAttr,Cnd.op,Cnd.col,Cnd.code,Cnd.lo,Cnd.hi,Cnd.kids,q1,q2,q3,q4,q5,q6,q7]
  refine C2.im (fun _=>qV s col 3) (fun _=>rfl) (by rfl) ?_
  simp only [tZ,↓un_u,simprocAttr,Cnd.op,Cnd.col,Cnd.code,Cnd.lo,Cnd.hi,Cnd.kids,q1,q2,q3,q4,q5,q6,q7]
  refine C2.im (fun _=>qV s col 3) (fun _=>rfl) (by rfl) ?_
  simp only [tZ,↓un_u,simprocAttr,Cnd.op,Cnd.col,Cnd.code,Cnd.lo,Cnd.hi,Cnd.kids,q1,q2,q3,q4,q5,q6,q7,hc0,hg0,hl0,hgl]
  refine ⟨by kernel_rfl,?_⟩
 rotate_left
 focus
  have q1:(op == 1) = false:=by rw [e];rfl
  have q2:(op == 2) = true:=by rw [e];rfl
  have q3:(op == 3) = false:=by rw [e];rfl
  have q4:(op == 4) = false:=by rw [e];rfl
  have q5:(op == 5) = false:=by rw [e];rfl
  have q6:(op == 6) = false:=by rw [e];rfl
  have q7:(op == 7) = false:=by rw [e];rfl
  simp [arC,-List.length_eq_zero_iff,e] at hn
  refine qd jf mixm (by simp) fun e _ hst=>qj ?_
  unfold zy
  simp only [tZ,↓un_u,simprocAttr,Cnd.op,Cnd.col,Cnd.code,Cnd.lo,Cnd.hi,Cnd.kids,q1,q2,q3,q4,q5,q6,q7]
  refine ⟨by kernel_rfl,?_⟩
  refine ⟨by kernel_rfl,?_⟩
  refine ⟨fun h=>?_,fun h=>?_⟩
  ·rw [hbad 11 (by decide) (by rw [hn,if_pos];grind)]
   exact .oA [] []
  have hks:ks.length≤2:=by grind
  rw [if_neg (by grind)] at hn
  refine C2.im (fun _=>qV s col 2) (fun _=>rfl) (by rfl) ?_
  simp only [tZ,↓un_u,simprocAttr,Cnd.op,Cnd.col,Cnd.code,Cnd.lo,Cnd.hi,Cnd.kids,q1,q2,q3,q4,q5,q6,q7]
  refine C2.im (fun _=>qV s col 3) (fun _=>rfl) (by rfl) ?_
  simp only [tZ,↓un_u,simprocAttr,Cnd.op,Cnd.col,Cnd.code,Cnd.lo,Cnd.hi,Cnd.kids,q1,q2,q3,q4,q5,q6,q7]
  refine C2.im (fun _=>qV s col 3) (fun _=>rfl) (by rfl) ?_
  by_cases h2:isB s col 2 = false
  ·rw [hbad 7 (by decide) (by rw [hn,if_pos (by grind)])]
   rcases Nat.lt_or_ge col.toNat s.cols.length with hk | hk
   ·simp only [tZ,↓un_u,simprocAttr,Cnd.op,Cnd.col,Cnd.code,Cnd.lo,Cnd.hi,Cnd.kids,q1,q2,q3,q4,q5,q6,q7,h2,qe hk]
    exact .oA [] []
   ·simp only [tZ,↓un_u,simprocAttr,Cnd.op,Cnd.col,Cnd.code,Cnd.lo,Cnd.hi,Cnd.kids,q1,q2,q3,q4,q5,q6,q7,h2,qx2 hk,List.drop_succ_cons,List.drop_nil]
    exact .oA [] []
  rw [Bool.not_eq_false] at h2
  obtain ⟨b1,b2,b3⟩:=zt.1 h2
  obtain ⟨i,hci⟩:∃ i:Nat,col.toNat = i:=⟨_,rfl⟩
  rw [hci] at b3
  try rw [hci] at hn
  have hil:i < s.cols.length:=by omega
  have hat:qg s i = s.cols[i]:=by rw [qg,qh hil]
  have hcd:=hok.cdl hil b3
  have hcd2:=(qU (hok.cs i hil)).2.2.2.1 b3
  have hcl:qG s i = s.lists.getD s.cols[i].list.toNat default:=by rw [qG,hat]
  rw [hat] at hcd hcd2
  rw [hcl,qh hcd.1] at hcd
  have hn:E = if code < 0∨code≥s.lists[s.cols[i].list.toNat].codes.length then 6 else 0:=by
   rw [hn,if_neg (by rw [h2];simp)]
   simp [hil,hcd.1]
  simp only [tZ,↓un_u,simprocAttr,Cnd.op,Cnd.col,Cnd.code,Cnd.lo,Cnd.hi,Cnd.kids,q1,q2,q3,q4,q5,q6,q7,h2,hci,qe hil,qe hcd.1,tD]
  refine ⟨fun _=>by omega,fun _=>by omega,by kernel_rfl,fun h3=>?_,fun h3=>?_⟩
  ·rw [hbad 6 (by decide) (by rw [hn,if_pos (by omega)])]
   exact .oA [] []
  rw [hgood (by rw [hn,if_neg (by omega)])]
 rotate_left
 focus
  have q1:(op == 1) = false:=by rw [e];rfl
  have q2:(op == 2) = false:=by rw [e];rfl
  have q3:(op == 3) = true:=by rw [e];rfl
  have q4:(op == 4) = false:=by rw [e];rfl
  have q5:(op == 5) = false:=by rw [e];rfl
  have q6:(op == 6) = false:=by rw [e];rfl
  have q7:(op == 7) = false:=by rw [e];rfl
  simp [arC,-List.length_eq_zero_iff,e] at hn
  refine qd jf mixm (by simp) fun e _ hst=>qj ?_
  unfold zy
  simp only [tZ,↓un_u,simprocAttr,Cnd.op,Cnd.col,Cnd.code,Cnd.lo,Cnd.hi,Cnd.kids,q1,q2,q3,q4,q5,q6,q7]
  refine ⟨by kernel_rfl,?_⟩
  refine ⟨by kernel_rfl,?_⟩
  refine ⟨fun h=>?_,fun h=>?_⟩
  ·rw [hbad 11 (by decide) (by rw [hn,if_pos];grind)]
   exact .oA [] []
  have hks:ks.length≤2:=by grind
  rw [if_neg (by grind)] at hn
  refine C2.im (fun _=>qV s col 2) (fun _=>rfl) (by rfl) ?_
  simp only [tZ,↓un_u,simprocAttr,Cnd.op,Cnd.col,Cnd.code,Cnd.lo,Cnd.hi,Cnd.kids,q1,q2,q3,q4,q5,q6,q7]
  refine C2.im (fun _=>qV s col 3) (fun _=>rfl) (by rfl) ?_
  simp only [tZ,↓un_u,simprocAttr,Cnd.op,Cnd.col,Cnd.code,Cnd.lo,Cnd.hi,Cnd.kids,q1,q2,q3,q4,q5,q6,q7]
  refine C2.im (fun _=>qV s col 3) (fun _=>rfl) (by rfl) ?_
  by_cases h2:isB s col 3 = false
  ·rw [hbad 7 (by decide) (by rw [hn,if_pos (by grind)])]
   rcases Nat.lt_or_ge col.toNat s.cols.length with hk | hk
   ·simp only [tZ,↓un_u,simprocAttr,Cnd.op,Cnd.col,Cnd.code,Cnd.lo,Cnd.hi,Cnd.kids,q1,q2,q3,q4,q5,q6,q7,h2,qe hk]
    exact .oA [] []
   ·simp only [tZ,↓un_u,simprocAttr,Cnd.op,Cnd.col,Cnd.code,Cnd.lo,Cnd.hi,Cnd.kids,q1,q2,q3,q4,q5,q6,q7,h2,qx2 hk,List.drop_succ_cons,List.drop_nil]
    exact .oA [] []
  rw [Bool.not_eq_false] at h2
  obtain ⟨b1,b2,b3⟩:=zt.1 h2
  obtain ⟨i,hci⟩:∃ i:Nat,col.toNat = i:=⟨_,rfl⟩
  rw [hci] at b3
  try rw [hci] at hn
  have hil:i < s.cols.length:=by omega
  have hat:qg s i = s.cols[i]:=by rw [qg,qh hil]
  have hli:s.cols[i].list.toNat = 0:=by
   have:=hok.list0 hil (by rw [b3];decide)
   rw [hat] at this
   rw [this];rfl
  rw [if_neg (by rw [h2];simp)] at hn
  simp only [tZ,↓un_u,simprocAttr,Cnd.op,Cnd.col,Cnd.code,Cnd.lo,Cnd.hi,Cnd.kids,q1,q2,q3,q4,q5,q6,q7,h2,hci,qe hil,hli,hgl,tD]
  refine ⟨by kernel_rfl,fun h3=>?_,fun h3=>?_⟩
  ·rw [hbad 2 (by decide) (by rw [hn,if_pos (by omega)])]
   exact .oA [] []
  rw [hgood (by rw [hn,if_neg (by omega)])]
 rotate_left
 focus
  have q1:(op == 1) = false:=by rw [e];rfl
  have q2:(op == 2) = false:=by rw [e];rfl
  have q3:(op == 3) = false:=by rw [e];rfl
  have q4:(op == 4) = true:=by rw [e];rfl
  have q5:(op == 5) = false:=by rw [e];rfl
  have q6:(op == 6) = false:=by rw [e];rfl
  have q7:(op == 7) = false:=by rw [e];rfl
  simp [arC,-List.length_eq_zero_iff,e] at hn
  refine qd jf mixm (by simp) fun e _ hst=>qj ?_
  unfold zy
  simp only [tZ,↓un_u,simprocAttr,Cnd.op,Cnd.col,Cnd.code,Cnd.lo,Cnd.hi,Cnd.kids,q1,q2,q3,q4,q5,q6,q7]
  refine ⟨by kernel_rfl,?_⟩
  refine ⟨fun h=>?_,fun h=>?_⟩
  ·rw [hbad 11 (by decide) (by rw [hn,if_pos];grind)]
   exact .oA [] []
  have hks:ks.length≤2:=by grind
  rw [if_neg (by grind)] at hn
  refine C2.im (fun _=>qV s col 2) (fun _=>rfl) (by rfl) ?_
  simp only [tZ,↓un_u,simprocAttr,Cnd.op,Cnd.col,Cnd.code,Cnd.lo,Cnd.hi,Cnd.kids,q1,q2,q3,q4,q5,q6,q7]
  refine C2.im (fun _=>qV s col 3) (fun _=>rfl) (by rfl) ?_
  simp only [tZ,↓un_u,simprocAttr,Cnd.op,Cnd.col,Cnd.code,Cnd.lo,Cnd.hi,Cnd.kids,q1,q2,q3,q4,q5,q6,q7]
  refine C2.im (fun _=>qV s col 3) (fun _=>rfl) (by rfl) ?_
  by_cases h2:isB s col 3 = false
  ·rw [hbad 7 (by decide) (by rw [hn,if_pos (by grind)])]
   rcases Nat.lt_or_ge col.toNat s.cols.length with hk | hk
   ·simp only [tZ,↓un_u,simprocAttr,Cnd.op,Cnd.col,Cnd.code,Cnd.lo,Cnd.hi,Cnd.kids,q1,q2,q3,q4,q5,q6,q7,h2,qe hk]
    exact .oA [] []
   ·simp only [tZ,↓un_u,simprocAttr,Cnd.op,Cnd.col,Cnd.code,Cnd.lo,Cnd.hi,Cnd.kids,q1,q2,q3,q4,q5,q6,q7,h2,qx2 hk,List.drop_succ_cons,List.drop_nil]
    exact .oA [] []
  rw [Bool.not_eq_false] at h2
  obtain ⟨b1,b2,b3⟩:=zt.1 h2
  obtain ⟨i,hci⟩:∃ i:Nat,col.toNat = i:=⟨_,rfl⟩
  rw [hci] at b3
  try rw [hci] at hn
  have hil:i < s.cols.length:=by omega
  have hat:qg s i = s.cols[i]:=by rw [qg,qh hil]
  have hli:s.cols[i].list.toNat = 0:=by
   have:=hok.list0 hil (by rw [b3];decide)
   rw [hat] at this
   rw [this];rfl
  have hn:E = if s.cols[i].opt = false then 7 else 0:=by
   rw [hn]
   simp [hil,h2]
  simp only [tZ,↓un_u,simprocAttr,Cnd.op,Cnd.col,Cnd.code,Cnd.lo,Cnd.hi,Cnd.kids,q1,q2,q3,q4,q5,q6,q7,h2,hci,qe hil,hli,hgl,Bool.not_eq_true',Bool.not_eq_false']
  refine ⟨by omega,fun h3=>?_,fun h3=>?_⟩
  ·rw [hbad 7 (by decide) (by rw [hn,if_pos h3])]
   exact .oA [] []
  rw [hgood (by rw [hn,if_neg (by rw [h3];simp)])]
  refine ⟨by kernel_rfl,?_⟩
 rotate_left
 focus
  have q1:(op == 1) = false:=by rw [e];rfl
  have q2:(op == 2) = false:=by rw [e];rfl
  have q3:(op == 3) = false:=by rw [e];rfl
  have q4:(op == 4) = false:=by rw [e];rfl
  have q5:(op == 5) = true:=by rw [e];rfl
  have q6:(op == 6) = false:=by rw [e];rfl
  have q7:(op == 7) = false:=by rw [e];rfl
  simp [arC,-List.length_eq_zero_iff,e] at hn
  refine qd jf mixm (by simp) fun e _ hst=>qj ?_
  unfold zy
  simp only [tZ,↓un_u,simprocAttr,Cnd.op,Cnd.col,Cnd.code,Cnd.lo,Cnd.hi,Cnd.kids,q1,q2,q3,q4,q5,q6,q7]
  refine ⟨by kernel_rfl,fun h=>?_,fun h=>?_⟩
  ·rw [hbad 11 (by decide) (by rw [hn,if_pos];grind)]
   exact .oA [] []
  have hks:ks.length≤2:=by grind
  rw [hgood (by rw [hn,if_neg];grind)]
  have hc0:col.toNat = 0:=by grind
  refine C2.im (fun _=>qV s col 2) (fun _=>rfl) (by rfl) ?_
  simp only [tZ,↓un_u,simprocAttr,Cnd.op,Cnd.col,Cnd.code,Cnd.lo,Cnd.hi,Cnd.kids,q1,q2,q3,q4,q5,q6,q7]
  refine C2.im (fun _=>qV s col 3) (fun _=>rfl) (by rfl) ?_
  simp only [tZ,↓un_u,simprocAttr,Cnd.op,Cnd.col,Cnd.code,Cnd.lo,Cnd.hi,Cnd.kids,q1,q2,q3,q4,q5,q6,q7]
  refine C2.im (fun _=>qV s col 3) (fun _=>rfl) (by rfl) ?_
  simp only [tZ,↓un_u,simprocAttr,Cnd.op,Cnd.col,Cnd.code,Cnd.lo,Cnd.hi,Cnd.kids,q1,q2,q3,q4,q5,q6,q7,hc0,hg0,hl0,hgl]
  refine ⟨by kernel_rfl,?_⟩
 rotate_left
 focus
  have q1:(op == 1) = false:=by rw [e];rfl
  have q2:(op == 2) = false:=by rw [e];rfl
  have q3:(op == 3) = false:=by rw [e];rfl
  have q4:(op == 4) = false:=by rw [e];rfl
  have q5:(op == 5) = false:=by rw [e];rfl
  have q6:(op == 6) = true:=by rw [e];rfl
  have q7:(op == 7) = false:=by rw [e];rfl
  simp [arC,-List.length_eq_zero_iff,e] at hn
  refine qd jf mixm (by simp) fun e _ hst=>qj ?_
  unfold zy
  simp only [tZ,↓un_u,simprocAttr,Cnd.op,Cnd.col,Cnd.code,Cnd.lo,Cnd.hi,Cnd.kids,q1,q2,q3,q4,q5,q6,q7]
  refine ⟨by kernel_rfl,fun h=>?_,fun h=>?_⟩
  ·rw [hbad 11 (by decide) (by rw [hn,if_pos];grind)]
   exact .oA [] []
  have hks:ks.length≤2:=by grind
  rw [hgood (by rw [hn,if_neg];grind)]
  have hc0:col.toNat = 0:=by grind
  refine C2.im (fun _=>qV s col 2) (fun _=>rfl) (by rfl) ?_
  simp only [tZ,↓un_u,simprocAttr,Cnd.op,Cnd.col,Cnd.code,Cnd.lo,Cnd.hi,Cnd.kids,q1,q2,q3,q4,q5,q6,q7]
  refine C2.im (fun _=>qV s col 3) (fun _=>rfl) (by rfl) ?_
  simp only [tZ,↓un_u,simprocAttr,Cnd.op,Cnd.col,Cnd.code,Cnd.lo,Cnd.hi,Cnd.kids,q1,q2,q3,q4,q5,q6,q7]
  refine C2.im (fun _=>qV s col 3) (fun _=>rfl) (by rfl) ?_
  simp only [tZ,↓un_u,simprocAttr,Cnd.op,Cnd.col,Cnd.code,Cnd.lo,Cnd.hi,Cnd.kids,q1,q2,q3,q4,q5,q6,q7,hc0,hg0,hl0,hgl]
  refine ⟨by kernel_rfl,?_⟩
 rotate_left
 focus
  have q1:(op == 1) = false:=by rw [e];rfl
  have q2:(op == 2) = false:=by rw [e];rfl
  have q3:(op == 3) = false:=by rw [e];rfl
  have q4:(op == 4) = false:=by rw [e];rfl
  have q5:(op == 5) = false:=by rw [e];rfl
  have q6:(op == 6) = false:=by rw [e];rfl
  have q7:(op == 7) = true:=by rw [e];rfl
  simp [arC,-List.length_eq_zero_iff,e] at hn
  refine qd jf mixm (by simp) fun e _ hst=>qj ?_
  unfold zy
  simp only [tZ,↓un_u,simprocAttr,Cnd.op,Cnd.col,Cnd.code,Cnd.lo,Cnd.hi,Cnd.kids,q1,q2,q3,q4,q5,q6,q7]
  refine ⟨by kernel_rfl,fun h=>?_,fun h=>?_⟩
  ·rw [hbad 11 (by decide) (by rw [hn,if_pos];grind)]
   exact .oA [] []
  have hks:ks.length≤2:=by grind
  rw [hgood (by rw [hn,if_neg];grind)]
  have hc0:col.toNat = 0:=by grind
  refine C2.im (fun _=>qV s col 2) (fun _=>rfl) (by rfl) ?_
  simp only [tZ,↓un_u,simprocAttr,Cnd.op,Cnd.col,Cnd.code,Cnd.lo,Cnd.hi,Cnd.kids,q1,q2,q3,q4,q5,q6,q7]
  refine C2.im (fun _=>qV s col 3) (fun _=>rfl) (by rfl) ?_
  simp only [tZ,↓un_u,simprocAttr,Cnd.op,Cnd.col,Cnd.code,Cnd.lo,Cnd.hi,Cnd.kids,q1,q2,q3,q4,q5,q6,q7]
  refine C2.im (fun _=>qV s col 3) (fun _=>rfl) (by rfl) ?_
  simp only [tZ,↓un_u,simprocAttr,Cnd.op,Cnd.col,Cnd.code,Cnd.lo,Cnd.hi,Cnd.kids,q1,q2,q3,q4,q5,q6,q7,hc0,hg0,hl0,hgl]
  refine ⟨by kernel_rfl,?_⟩
 rotate_left
 focus
  have q1:(op == 1) = false:=beq_eq_false_iff_ne.2 (by omega)
  have q2:(op == 2) = false:=beq_eq_false_iff_ne.2 (by omega)
  have q3:(op == 3) = false:=beq_eq_false_iff_ne.2 (by omega)
  have q4:(op == 4) = false:=beq_eq_false_iff_ne.2 (by omega)
  have q5:(op == 5) = false:=beq_eq_false_iff_ne.2 (by omega)
  have q6:(op == 6) = false:=beq_eq_false_iff_ne.2 (by omega)
  have q7:(op == 7) = false:=beq_eq_false_iff_ne.2 (by omega)
  rw [hbad 4 (by decide) (by rw [hn,if_pos e])]
  refine qd jf mixm (by simp) fun e _ hst=>qj ?_
  unfold zy
  simp only [tZ,↓un_u,simprocAttr,Cnd.op,Cnd.col,Cnd.code,Cnd.lo,Cnd.hi,Cnd.kids,q1,q2,q3,q4,q5,q6,q7]
  refine ⟨by kernel_rfl,?_⟩
  exact .oA [] []
 all_goals (
  refine qw mixm (α:=Nat) [7,77,121,147,167] (fun i=>i≤ks.length∧yA s (ks.take i) = 0) (fun i=>[(7,vI i)]) (fun i=>[(4096,.arr 2 [schT s] false),(4100,.arr 6 [.agg [vI op,vI col,vI code,vI lo,vI hi,vCs ks]] false)]) (fun i=>ks.length - i) 0 ⟨by omega,by rw [List.take_zero,yA]⟩ ?_ fun i hi2=>?_
  ·exact .oA [(4096,some 4096),(4100,some 4100)] []
  obtain ⟨i1,i2⟩:=hi2
  refine sD ?_
  refine ⟨fun h5=>?_,fun h5=>?_⟩
  ·have hi2:i < ks.length:=by omega
   have hwi:=qk (i:=i) (by omega)
   simp only [tZ,↓un_u,simprocAttr,Int.toNat_natCast,qe hi2,zx]
   refine ⟨by omega,?_⟩
   refine C1.im (ih _ (List.getElem_mem hi2)) (by rfl) (by rfl) ?_
   simp only [tZ,↓un_u,simprocAttr,hwi,bne_iff_ne,bne_eq_false_iff_eq]
   refine ⟨by kernel_rfl,fun h6=>?_,fun h6=>?_⟩
   ·rw [qe5 hi2 i2 h6]
    exact .oA [] []
   ·refine ⟨i + 1,⟨by omega,by rw [qM hi2];exact qq4 i2 h6⟩,by omega,?_⟩
    exact .oA [(4096,some 4096),(4100,some 4100)] []
  ·have hil:i = ks.length:=by omega
   subst hil
   rw [List.take_length] at i2
   rw [i2]
   exact .oA [] []
  )
end Go.Proofs
namespace Go.Proofs
open Go Go.TL
set_option maxHeartbeats 4000000
theorem KY (s:Sch) (hs:Qp s) (hL:0 < s.lists.length) (c:Cnd):Spc Tryz.prog wT [schT s,cnT c] [] (vI (chkC s c)) []:=by
 refine qd qI6 mixm (by simp) fun e _ hst=>qj ?_
 unfold Js
 refine sW ?_
 refine C1.im (yr s hs) (by rfl) (by rfl) ?_
 simp only [tZ,↓un_u,simprocAttr,bne_iff_ne,bne_eq_false_iff_eq]
 refine ⟨fun h=>?_,fun h=>?_⟩
 ·rw [chkC,if_pos h]
  exact .oA [] []
 have hok:=qJ h
 refine C1.im (qW3 c 41 (by omega) (by omega)) (by rfl) (by rfl) ?_
 refine sD ?_
 refine ⟨fun h2=>?_,fun h2=>?_⟩
 ·rw [chkC,if_neg (by rw [h];simp),if_pos h2]
  exact .oA [] []
 refine C1.im (qW4 c 41 (by omega) (by omega) (by omega)) (by rfl) (by rfl) ?_
 refine sD ?_
 refine ⟨fun h3=>?_,fun h3=>?_⟩
 ·rw [chkC,if_neg (by rw [h];simp),if_neg h2,if_pos (by omega)]
  exact .oA [] []
 rw [chkC,if_neg (by rw [h];simp),if_neg h2,if_neg (by omega)]
 refine C1.im (zi6 s hok hL c) (by rfl) (by rfl) ?_
 refine sW ?_
 exact .oA [] []
theorem KZ {s:Sch} {c:Cnd} (h:chkC s c = 0):schE s = 0∧cntC c 41 < 41∧depC c≤10∧nodE s c = 0:=by
 unfold chkC at h
 split at h
 ·rename_i h1;exact absurd h h1
 rename_i h1
 split at h
 ·cases h
 rename_i h2
 split at h
 ·cases h
 rename_i h3
 exact ⟨Classical.byContradiction h1,by omega,by omega,h⟩
theorem Jf (s:Sch) (hok:SchOk s) (c:Cnd) (hc:NdOk s c) (v:Int):Spc Tryz.prog wG [schT s,cnT c,vI v] [] (vI (zH s c v)) []:=by
 have hn0:=hok.nl
 have hn1:=hok.nc
 have hA:zH s c v = if c.op = 2 then tf (Yn (qG s c.col.toNat) v c.code)
 else if c.op = 3 then (if v = qY then 0 else tf (decide (c.lo≤v) && decide (v≤c.hi)))
 else if c.op = 4 then tf (v == qY) else -1:=rfl
 rw [hA]
 by_cases h2:c.op = 2
 ·obtain ⟨b,b4,b5⟩:=hc.under h2
  obtain ⟨b1,b2,b3⟩:=zt.1 b
  obtain ⟨i,hci⟩:=Int.eq_ofNat_of_zero_le b1
  rw [hci] at b2 b5
  rw [hci,Int.toNat_natCast] at b3
  rw [Int.toNat_natCast] at b5
  have hil:i < s.cols.length:=by omega
  have hat:qg s i = s.cols[i]:=by rw [qg,qh hil]
  have hcd:=hok.cdl hil b3
  have hcd2:=(qU (hok.cs i hil)).2.2.2.1 b3
  have hcl:qG s i = s.lists.getD s.cols[i].list.toNat default:=by rw [qG,hat]
  rw [hat] at hcd hcd2
  rw [if_pos h2,hci,Int.toNat_natCast]
  rw [hcl,qh hcd.1] at hcd ⊢
  obtain ⟨_,d5,d6⟩:=zc hcd.2
  have q:(c.op == 2) = true:=beq_iff_eq.2 h2
  refine qd QZ mixm (by simp) fun e _ hst=>qj ?_
  unfold kG
  simp only [tZ,↓un_u,simprocAttr,q,hci,Int.toNat_natCast,qe hil,qe hcd.1]
  refine ⟨by omega,by omega,?_⟩
  refine C1.im (qV8 _ v c.code (by omega)) (by rfl) (by rfl) ?_
  refine sW ?_
  refine ⟨by kernel_rfl,fun h=>?_,fun h=>?_⟩
  ·rw [h]
   exact .oA [] []
  ·rw [h]
   exact .oA [] []
 have q:(c.op == 2) = false:=beq_eq_false_iff_ne.2 h2
 rw [if_neg h2]
 by_cases h3:c.op = 3
 ·have q3:(c.op == 3) = true:=beq_iff_eq.2 h3
  rw [if_pos h3]
  refine qd QZ mixm (by simp) fun e _ hst=>qj ?_
  unfold kG
  simp only [tZ,↓un_u,simprocAttr,q,q3,beq_iff_eq,beq_eq_false_iff_ne]
  rw [show (-1099511627776:Int) = qY from rfl]
  refine ⟨fun h=>?_,fun h=>?_⟩
  ·rw [if_pos h]
   exact .oA [] []
  ·rw [if_neg h]
   refine ⟨fun h=>?_,fun h=>?_⟩
   ·rw [h]
    exact .oA [] []
   ·rw [h]
    exact .oA [] []
 have q3:(c.op == 3) = false:=beq_eq_false_iff_ne.2 h3
 rw [if_neg h3]
 by_cases h4:c.op = 4
 ·have q4:(c.op == 4) = true:=beq_iff_eq.2 h4
  rw [if_pos h4]
  refine qd QZ mixm (by simp) fun e _ hst=>qj ?_
  unfold kG
  simp only [tZ,↓un_u,simprocAttr,q,q3,q4]
  rw [show (-1099511627776:Int) = qY from rfl]
  refine ⟨fun h=>?_,fun h=>?_⟩
  ·rw [h]
   exact .oA [] []
  ·rw [h]
   exact .oA [] []
 have q4:(c.op == 4) = false:=beq_eq_false_iff_ne.2 h4
 rw [if_neg h4]
 refine qd QZ mixm (by simp) fun e _ hst=>qj ?_
 unfold kG
 simp only [tZ,↓un_u,simprocAttr,q,q3,q4]
 exact .oA [] []
theorem qt5 (op:Int) (ks:List Int) (h7:op = 7→1≤ks.length) (h5:op = 5∨op = 6→2≤ks.length) (hv:∀ k∈ks,-1≤k∧k≤1):Spc Tryz.prog Jd [vI op,vIs ks] [] (vI (qM3 op ks)) []:=by
 refine qd qV3 mixm (by simp) fun e _ hst=>qj ?_
 unfold KR
 simp only [tZ,↓un_u,simprocAttr,beq_iff_eq,beq_eq_false_iff_ne]
 refine ⟨fun h=>?_,fun h=>⟨fun h2=>?_,fun h2=>⟨fun h3=>?_,fun h3=>?_⟩⟩⟩
 ·have h0:0 < ks.length:=by have:=h7 h;omega
  have hk:=hv _ (List.getElem_mem h0)
  have hw:IntKind.i64.wrap ((0:Int) - ks[0]) = - ks[0]:=by rw [IntWalk.i64_in _ (by omega)];omega
  rw [qM3,if_pos h,qh h0]
  simp only [tZ,↓un_u,simprocAttr,qe h0]
  rw [hw]
  refine ⟨by omega,?_⟩
  exact .oA [] []
 ·have h0:0 < ks.length:=by have:=h5 (.inl h2);omega
  have h1:1 < ks.length:=by have:=h5 (.inl h2);omega
  rw [qM3,if_neg h,if_pos h2,qh h0,qh h1]
  have hm:minI ks[0] ks[1] = min ks[0] ks[1]:=by unfold minI;omega
  simp only [tZ,↓un_u,simprocAttr,qe h0,qe h1,hm]
  refine ⟨by omega,by omega,by kernel_rfl,?_⟩
  exact .oA [] []
 ·have h0:0 < ks.length:=by have:=h5 (.inr h3);omega
  have h1:1 < ks.length:=by have:=h5 (.inr h3);omega
  rw [qM3,if_neg h,if_neg h2,if_pos h3,qh h0,qh h1]
  have hm:maxI ks[0] ks[1] = max ks[0] ks[1]:=by unfold maxI;omega
  simp only [tZ,↓un_u,simprocAttr,qe h0,qe h1,hm]
  refine ⟨by omega,by omega,by kernel_rfl,?_⟩
  exact .oA [] []
 ·rw [qM3,if_neg h,if_neg h2,if_neg h3]
  exact .oA [] []
theorem jd7 (s:Sch) (c:Cnd) (v:Int) : -1≤zH s c v∧zH s c v≤1:=by
 unfold zH tf
 grind
theorem jd8 {op:Int} {ks:List Int} (h:∀ k∈ks,-1≤k∧k≤1) : -1≤qM3 op ks∧qM3 op ks≤1:=by
 have key:∀ i,-1≤ks.getD i 0∧ks.getD i 0≤1:=fun i=>by
  rcases Nat.lt_or_ge i ks.length with hi | hi
  ·rw [qh hi];exact h _ (List.getElem_mem hi)
  ·rw [List.getD_eq_getElem?_getD,List.getElem?_eq_none hi];simp
 have h0:=key 0
 have h1:=key 1
 unfold qM3
 grind
theorem jl5 (s:Sch) (row:List Int):∀ c,-1≤evC s row c∧evC s row c≤1:=by
 refine Cnd.ind' fun c ih=>?_
 rw [zV0]
 split
 ·exact jd7 s c _
 ·refine jd8 fun k hk=>?_
  obtain ⟨x,hx,rfl⟩:=List.mem_map.1 hk
  exact ih x hx
theorem zi7 (s:Sch) (hok:SchOk s) (row:List Int) (hr:row.length = s.cols.length):∀ (c:Cnd),nodE s c = 0→Spc Tryz.prog Jb [schT s,cnT c,vIs row] [] (vI (evC s row c)) []:=by
 refine Cnd.ind' fun c ih hE=>?_
 obtain ⟨hE1,hE2⟩:=zo8 hE
 have hnd:=zz3 hE1
 have hks:c.kids.length≤2:=by have:=hnd.nk;unfold arC at this;grind
 rw [zV0]
 have hi:isAt c = ((c.op == 2) || (c.op == 3) || (c.op == 4)):=rfl
 refine qd qU2 mixm (by simp) fun e _ hst=>qj ?_
 unfold KK
 refine sW ?_
 rw [← hi]
 refine ⟨fun h=>?_,fun h=>?_⟩
 ·rw [if_pos h]
  have hb:∃ k,isB s c.col k = true:=by
   rw [hi] at h
   simp only [tD,beq_iff_eq] at h
   rcases h with (h | h) | h
   ·exact ⟨2,(hnd.under h).1⟩
   ·exact ⟨3,(hnd.between h).1⟩
   ·exact ⟨3,(hnd.miss h).1⟩
  obtain ⟨kk,hb⟩:=hb
  obtain ⟨b1,b2,_⟩:=zt.1 hb
  have hil:c.col.toNat < row.length:=by omega
  rw [qh hil]
  simp only [tZ,↓un_u,simprocAttr,qe hil]
  refine ⟨by omega,?_⟩
  refine C1.im (Jf s hok c hnd _) (by rfl) (by rfl) ?_
  refine sW ?_
  refine ⟨by kernel_rfl,?_⟩
  exact .oA [] []
 ·rw [if_neg (by rw [h];simp)]
  refine qw mixm (α:=Nat) [7,8,21] (fun i=>i≤c.kids.length) (fun i=>[(7,.asl 1 i),(8,vI i)]) (fun i=>[(4096,.arr 2 [schT s] false),(4100,.arr 6 [cnT c] false),(1,.arr 1 (((c.kids.take i).map (evC s row)).map vI) false)]) (fun i=>c.kids.length - i) 0 (by omega) ?_ fun i hi2=>?_
  ·exact .oA [(4096,some 4096),(4100,some 4100),(1,none)] []
  refine sD ?_
  refine ⟨fun h5=>?_,fun h5=>?_⟩
  ·have hi2:i < c.kids.length:=by omega
   have hwi:=qk (i:=i) (by omega)
   simp only [tZ,↓un_u,simprocAttr,Int.toNat_natCast,qe hi2,zx]
   refine ⟨by omega,?_⟩
   refine C1.im (ih _ (List.getElem_mem hi2) (hE2 _ (List.getElem_mem hi2))) (by rfl) (by rfl) ?_
   simp only [tZ,↓un_u,simprocAttr,hwi]
   have hlt:(c.kids.take i).length = i:=by simp;omega
   refine ⟨by omega,by kernel_rfl,i + 1,by omega,by omega,?_⟩
   rw [qM hi2,List.map_append,List.map_append]
   exact .oA [(4096,some 4096),(4100,some 4100),(1,some 1)] []
  ·have hil:i = c.kids.length:=by omega
   subst hil
   rw [List.take_length]
   have hj:=qt5 c.op (c.kids.map (evC s row)) (fun e=>by rw [List.length_map,hnd.nk,e];decide) (fun e=>by rw [List.length_map,hnd.nk];rcases e with e | e <;> rw [e] <;> decide) (fun k hk=>by
    obtain ⟨x,_,rfl⟩:=List.mem_map.1 hk
    exact jl5 s row x)
   refine C1.shut [1] hj ?_ (by rfl) rfl ?_
   ·simp only [tL,simprocAttr]
    exact jl1 _
   refine sW ?_
   exact .oA [] []
theorem zi8 (s:Sch) (hs:Qp s) (hL:0 < s.lists.length) (c:Cnd) (row:List Int) (hr:row.length < 4611686018427387904):Spc Tryz.prog Ja [schT s,cnT c,vIs row] [] (vI (zF1 s c row)) []:=by
 have hR:=zo7 s hs row hr
 refine qd qT9 mixm (by simp) fun e _ hst=>qj ?_
 unfold KH
 refine sW ?_
 refine C1.im (KY s hs hL c) (by rfl) (by rfl) ?_
 refine sW ?_
 refine C2.im (fun _=>hR) (fun _=>rfl) (by rfl) ?_
 simp only [tZ,↓un_u,simprocAttr,tD,bne_iff_ne,bne_eq_false_iff_eq]
 refine ⟨fun h=>?_,fun h=>?_⟩
 ·rw [zF1,if_pos h]
  exact .oA [] []
 obtain ⟨k1,k2,k3,k4⟩:=KZ h.1
 rw [zF1,if_neg (by omega)]
 refine C1.im (zi7 s (qJ k1) row (qV7 h.2).2.1 c k4) (by rfl) (by rfl) ?_
 refine sW ?_
 exact .oA [] []
theorem qq5:∀ c m,1≤m→cntC c m < m→((atsC c).length:Int)≤cntC c m:=by
 refine Cnd.ind' fun c ih m hm h=>?_
 have hc:=qt3 c m hm
 rw [Yo]
 split
 ·simp;omega
 ·rw [JN] at h ⊢
  have key:∀ l:List Cnd,(∀ k∈l,k∈c.kids)→∀ n,1≤n→n≤m→kz l m n < m→n + (Zc l).length≤kz l m n:=by
   intro l
   induction l with
   | nil=>intro _ n h1 h2 _;rw [kz,Zc];simp
   | cons k r ihl=>
     intro hk n h1 h2 h3
     rw [kz] at h3 ⊢
     rw [Zc,List.length_append]
     split at h3
     ·rename_i h4
      rw [if_pos h4]
      have c1:=qt3 k (m - n) (by omega)
      have c2:=qW1 r m (n + cntC k (m - n)) (by omega)
      have c3:=ih k (hk k (by simp)) (m - n) (by omega) (by omega)
      have c4:=ihl (fun x hx=>hk x (List.mem_cons_of_mem _ hx)) (n + cntC k (m - n)) (by omega) (by omega) h3
      omega
     ·omega
  have:=key c.kids (fun k hk=>hk) 1 (by omega) hm h
  omega
theorem yw:∀ (l:List Cnd) (i:Nat),(Zc (l.take i)).length≤(Zc l).length
 | [],i=>by simp
 | x :: r,0=>by simp [Zc]
 | x :: r,i + 1=>by rw [List.take_succ_cons,Zc,Zc,List.length_append,List.length_append];have:=yw r i;omega
theorem zi9 (l:List Cnd):ImXs 6 (l.map cndT):=qK jd6 l
theorem qW5 {st:Sto} {ρ:Ren} {B:List Nat} (l:List Cnd):ltXs st ρ B 6 (l.map cndT) (l.map cndT):=Qm (zi9 l)
theorem qW6:∀ (c:Cnd) (m:Int),1≤m→m≤1000→cntC c m < m→Spc Tryz.prog QT [cnT c] [] (vCs (atsC c)) []:=by
 refine Cnd.ind' fun c ih m hm hm2 hc=>?_
 have hal:=qq5 c m hm hc
 rw [JN] at hc hal
 obtain ⟨hk1,hk2⟩:=ql0 (by omega) hc
 have hi:isAt c = ((c.op == 2) || (c.op == 3) || (c.op == 4)):=rfl
 refine qd qI8 mixm (by simp) fun e _ hst=>qj ?_
 unfold Jt
 refine sW ?_
 rw [← hi]
 refine ⟨fun h=>?_,fun h=>?_⟩
 ·rw [Yo,if_pos h]
  show Qk [] _ _ (.sl 6 [cndT c]) []
  rw [zx]
  exact .oA [] [12292]
 ·rw [Yo,if_neg (by rw [h];simp)] at hal ⊢
  refine qw mixm (α:=Nat) [3,4,17] (fun i=>i≤c.kids.length) (fun i=>[(3,.asl 1 (Zc (c.kids.take i)).length),(4,vI i)]) (fun i=>[(4096,.arr 6 [cnT c] false),(1,.arr 6 ((Zc (c.kids.take i)).map cndT) false)]) (fun i=>c.kids.length - i) 0 (by omega) ?_ fun i hi2=>?_
  ·exact .oA [(4096,some 4096),(1,none)] []
  have htl:=yw c.kids i
  refine sD ?_
  refine ⟨fun h5=>?_,fun h5=>?_⟩
  ·have hi2:i < c.kids.length:=by omega
   have hwi:=qk (i:=i) (by omega)
   obtain ⟨m',a1,a2,a3⟩:=hk2 _ (List.getElem_mem hi2)
   have htl2:=yw c.kids (i + 1)
   rw [qM hi2,Kh,List.length_append] at htl2
   simp only [tZ,↓un_u,simprocAttr,Int.toNat_natCast,qe hi2,zx]
   refine ⟨by omega,?_⟩
   refine C1.im (ih _ (List.getElem_mem hi2) m' a1 (by omega) a3) (by rfl) (by rfl) ?_
   simp only [tZ,↓un_u,simprocAttr,hwi]
   refine ⟨by omega,i + 1,by omega,by omega,?_⟩
   rw [qM hi2,Kh,List.map_append]
   refine .of [(4096,some 4096),(1,some 1)] [] rfl (by first | rfl | (rw [hst];rfl)) ?_ ?_
   all_goals (try simp only [tL,simprocAttr,List.map_append,List.map_cons,List.map_nil,List.cons_append,List.nil_append,List.append_assoc])
   all_goals (try (repeat' (first | exact zh | (apply zU;intro _;exact ⟨rfl,rfl⟩) | (apply qK;intro _;exact ⟨rfl,rfl⟩) | with_reducible apply qX | with_reducible refine qZ ⟨rfl,rfl⟩ ?_ | exact zn | with_reducible apply qR | with_reducible refine qQ ⟨rfl,rfl,?_⟩ ?_ | with_reducible apply And.intro | exact qS rfl | exact qS (by assumption) | (refine ⟨⟨?_,rfl,?_,rfl,?_⟩,trivial⟩ <;> first | (simp;done) | (apply qK;intro _;exact ⟨rfl,rfl⟩)) | trivial | rfl | (rw [qk (by omega)]) | omega)))
   all_goals first | exact qW5 _ | exact zi9 _
  ·have hil:i = c.kids.length:=by omega
   subst hil
   rw [List.take_length]
   refine .of [] [1] rfl (by first | rfl | (rw [hst];rfl)) ?_ ?_
   all_goals (try simp only [tL,simprocAttr,List.map_append,List.map_cons,List.map_nil,List.cons_append,List.nil_append,List.append_assoc])
   all_goals (try (repeat' (first | exact zh | (apply zU;intro _;exact ⟨rfl,rfl⟩) | (apply qK;intro _;exact ⟨rfl,rfl⟩) | with_reducible apply qX | with_reducible refine qZ ⟨rfl,rfl⟩ ?_ | exact zn | with_reducible apply qR | with_reducible refine qQ ⟨rfl,rfl,?_⟩ ?_ | with_reducible apply And.intro | exact qS rfl | exact qS (by assumption) | (refine ⟨⟨?_,rfl,?_,rfl,?_⟩,trivial⟩ <;> first | (simp;done) | (apply qK;intro _;exact ⟨rfl,rfl⟩)) | trivial | rfl | (rw [qk (by omega)]) | omega)))
   all_goals first | exact qW5 _ | exact zi9 _
end Go.Proofs
namespace Go.Proofs
open Go Go.TL
set_option maxHeartbeats 4000000
theorem qE8 (col lev:Int):∀ (l:List Pk) (x:List Pk×Bool),(l.foldl (WA col lev) x).1.length + (if (l.foldl (WA col lev) x).2 = true then 0 else 1)≤x.1.length + (if x.2 = true then 0 else 1) + l.length
 | [],x=>Nat.le_refl _
 | p :: r,x=>by
   have h:=qE8 col lev r (WA col lev x p)
   have h2:(WA col lev x p).1.length + (if (WA col lev x p).2 = true then 0 else 1)≤x.1.length + (if x.2 = true then 0 else 1) + 1:=by
    unfold WA
    obtain ⟨a,b⟩:=x
    dsimp only
    split <;> split <;> cases b <;> simp_all <;> omega
   rw [List.foldl_cons,List.length_cons]
   omega
theorem ql1 (l:List Pk) (col lev:Int):(KX l col lev).length≤l.length + 1:=by
 have h:=qE8 col lev l ([],decide (lev≤0))
 unfold KX
 dsimp only at h ⊢
 split
 ·simp_all
  split at h <;> omega
 ·rename_i k
  rw [if_neg k] at h
  rw [List.length_append]
  simp at h ⊢
  split at h <;> omega
theorem qW7 (l:List Pk) (col lev:Int) (hl:l.length < 1000000000):Spc Tryz.prog Kx [vPs l,vI col,vI lev] [] (vPs (KX l col lev)) []:=by
 have hP:KX l col lev = if (l.foldl (WA col lev) ([],decide (lev≤0))).2 then (l.foldl (WA col lev) ([],decide (lev≤0))).1 else (l.foldl (WA col lev) ([],decide (lev≤0))).1 ++ [⟨col,lev⟩]:=rfl
 have hS:∀ i,i≤l.length→((l.take i).foldl (WA col lev) ([],decide (lev≤0))).1.length≤l.length + 1:=fun i hi=>by
  have h:=qE8 col lev (l.take i) ([],decide (lev≤0))
  simp only [List.length_nil,List.length_take] at h
  split at h <;> split at h <;> omega
 refine qd qH8 mixm (by simp) fun e _ hst=>qj ?_
 unfold Jo
 refine sW ?_
 refine qw mixm (α:=Nat×List Pk×Bool) [7,8,9] (fun x=>x.1≤l.length∧x.2 = (l.take x.1).foldl (WA col lev) ([],decide (lev≤0))) (fun x=>[(7,.asl 1 x.2.1.length),(8,vB x.2.2),(9,vI x.1)]) (fun x=>[(1,.arr 2 (x.2.1.map pkT) false)]) (fun x=>l.length - x.1) (0,[],decide (lev≤0)) ⟨by simp,by simp⟩ ?_ fun x hx=>?_
 ·exact .oA [(1,none)] []
 obtain ⟨i,a,b⟩:=x
 obtain ⟨x1,x2⟩:=hx
 dsimp only at x1 x2
 have hSi:=hS i x1
 rw [← x2] at hSi
 dsimp only at hSi
 refine sD ?_
 refine ⟨fun h=>?_,fun h=>?_⟩
 ·have hi2:i < l.length:=by omega
  have hwi:=qk (i:=i) (by omega)
  have hs:(l.take (i + 1)).foldl (WA col lev) ([],decide (lev≤0)) = WA col lev (a,b) l[i]:=by rw [qM hi2,List.foldl_append,← x2];rfl
  simp only [tZ,↓un_u,simprocAttr,Int.toNat_natCast,qe hi2]
  generalize l[i] = p at hs ⊢
  have hmx:maxI p.lev lev = max p.lev lev:=by unfold maxI;omega
  have hr:WA col lev (a,b) p = (if p.col = col then ((if p.col > col∧b = false then (a ++ [⟨col,lev⟩],true) else (a,b)).1 ++ [⟨p.col,max p.lev lev⟩],true) else ((if p.col > col∧b = false then (a ++ [⟨col,lev⟩],true) else (a,b)).1 ++ [p],(if p.col > col∧b = false then (a ++ [(⟨col,lev⟩:Pk)],true) else (a,b)).2)):=rfl
  rw [hr] at hs
  simp only [tZ,↓un_u,simprocAttr,tD,beq_iff_eq,beq_eq_false_iff_ne,Bool.not_eq_true',Bool.not_eq_false',hwi,hmx]
  refine ⟨by omega,fun h2=>⟨by omega,fun h3=>by omega,fun h3=>?_⟩,fun h2=>⟨fun h3=>?_,fun h3=>?_⟩⟩
  ·rw [if_neg h3,if_pos h2] at hs
   refine ⟨by omega,(i + 1,a ++ [⟨col,lev⟩] ++ [p],true),⟨by dsimp only;omega,hs.symm⟩,by dsimp only;omega,?_⟩
   exact .oA [(1,some 1)] []
  ·rw [if_pos h3,if_neg (by grind)] at hs
   refine ⟨by omega,(i + 1,a ++ [⟨p.col,max p.lev lev⟩],true),⟨by dsimp only;omega,hs.symm⟩,by dsimp only;omega,?_⟩
   exact .oA [(1,some 1)] []
  ·rw [if_neg h3,if_neg (by grind)] at hs
   refine ⟨by omega,(i + 1,a ++ [p],b),⟨by dsimp only;omega,hs.symm⟩,by dsimp only;omega,?_⟩
   exact .oA [(1,some 1)] []
 ·have hil:i = l.length:=by omega
  subst hil
  rw [List.take_length] at x2
  rw [← x2] at hP
  dsimp only at hP
  simp only [tZ,↓un_u,simprocAttr,Bool.not_eq_true',Bool.not_eq_false']
  refine ⟨fun h2=>?_,fun h2=>?_⟩
  ·rw [hP,h2,if_neg (by simp)]
   refine ⟨by omega,?_⟩
   show Qk [] _ _ (.sl 2 ((a ++ [(⟨col,lev⟩:Pk)]).map pkT)) []
   rw [List.map_append]
   exact .oA [] [1]
  ·rw [hP,if_pos h2]
   exact .oA [] [1]
theorem qM4 (a b:List Pk) (ha:a.length < 4611686018427387904) (hb:b.length < 4611686018427387904):Spc Tryz.prog Ji [vPs a,vPs b] [] (vB (covB a b)) []:=by
 refine qd qB5 mixm (by simp) fun e _ hst=>qj ?_
 unfold Zu
 refine sW ?_
 refine qw mixm (α:=Nat) [5] (fun i=>i≤a.length∧(covB (a.take i) b = true)) (fun i=>[(5,vI i)]) (fun i=>[]) (fun i=>a.length - i) 0 ⟨by omega,?_⟩ ?_ fun i hi=>?_
 ·rfl
 ·exact .oA [] []
 simp only [tZ,↓un_u,simprocAttr,decide_eq_true_eq,decide_eq_false_iff_not]
 refine ⟨fun h=>?_,fun h=>?_⟩
 ·have hi2:i < a.length:=by omega
  have hwi:=qk (i:=i) (by omega)
  refine qw mixm (α:=Nat) [6,7] (fun k=>k≤b.length) (fun k=>[(6,vB ((b.take k).any fun y=>(y.col == a[i].col) && decide (y.lev≥a[i].lev))),(7,vI k)]) (fun k=>[]) (fun k=>b.length - k) 0 (by omega) ?_ fun k hk=>?_
  ·exact .oA [] []
  refine sD ?_
  refine ⟨fun h4=>?_,fun h4=>?_⟩
  ·have hk2:k < b.length:=by omega
   have hwk:=qk (i:=k) (by omega)
   simp only [tZ,↓un_u,simprocAttr,Int.toNat_natCast,qe hi2,qe hk2,hwk]
   refine ⟨fun _=>by omega,fun _=>by omega,fun _=>by omega,fun _=>by omega,by kernel_rfl,k + 1,by omega,by omega,?_⟩
   rw [qM hk2,List.any_append,List.any_cons,List.any_nil,Bool.or_false]
   exact .oA [] []
  ·have hkl:k = b.length:=by omega
   subst hkl
   rw [List.take_length]
   have hcs:covB (a.take (i + 1)) b = (covB (a.take i) b && b.any fun y=>(y.col == a[i].col) && decide (y.lev≥a[i].lev)):=by
    unfold covB
    rw [qM hi2,List.all_append]
    simp
   simp only [tZ,↓un_u,simprocAttr,Bool.not_eq_true',Bool.not_eq_false',hwi]
   refine ⟨fun h5=>?_,fun h5=>?_⟩
   ·have:covB a b = false:=List.all_eq_false.2 ⟨_,List.getElem_mem hi2,by rw [h5];simp⟩
    rw [this]
    exact .oA [] []
   ·refine ⟨i + 1,⟨by omega,by rw [hcs,hi.2,h5];rfl⟩,by omega,?_⟩
    exact .oA [] []
 ·have hi2:i = a.length:=by omega
  subst hi2
  have h3:=hi.2
  rw [List.take_length] at h3
  rw [h3]
  exact .oA [] []
inductive SmC:Cnd→Prop
 | mk (c:Cnd) (h1:c.kids.length < 4611686018427387904) (h2:∀ k∈c.kids,SmC k):SmC c
end Go.Proofs
namespace Go.Proofs
open Go Go.TL
set_option maxHeartbeats 4000000
theorem qE9 (s:Sch) (hE:schE s = 0) (c:Cnd) (hnd:NdOk s c) (ha:isAt c = true) (lev:Nat) (hl:(lev:Int)≤finI s c.col):Spc Tryz.prog Zo [schT s,cnT c,vI lev] [] (vB (decB s c lev)) []:=by
 have hok:=qJ hE
 have hn0:=hok.nl
 have hn1:=hok.nc
 obtain ⟨_,c1,c2,hfin⟩:=kV (s:=s) (c:=c.col) (by omega)
 obtain ⟨i,hci⟩:=Int.eq_ofNat_of_zero_le (show 0≤c.col by omega)
 have hcn:c.col.toNat = i:=by omega
 have hil:i < s.cols.length:=by omega
 have hat:qg s i = s.cols[i]:=by rw [qg,qh hil]
 have hwd:=fun e l=>hok.wid hil (by omega) e (lev:=l)
 have hlv:=Qh s hok i hil
 have hll:=Zj hok hil
 rw [hcn,hat] at hfin
 rw [hat] at hwd hlv hll
 have hi:isAt c = ((c.op == 2) || (c.op == 3) || (c.op == 4)):=rfl
 have hD:decB s c lev = if c.op = 2 then qk5 (qD s i).length (decP s c lev)
 else if c.op = 4 then decide (0 < lev)
 else if lev = 0 then !s.cols[i].opt && !(decide (s.cols[i].low < c.lo) && decide (c.lo≤s.cols[i].high)) && !(decide (s.cols[i].low≤c.hi) && decide (c.hi < s.cols[i].high))
  else (!(decide (s.cols[i].low < c.lo) && decide (c.lo≤s.cols[i].high)) || (c.lo.tmod (qE s.cols[i] lev) == 0)) && (!(decide (s.cols[i].low≤c.hi) && decide (c.hi < s.cols[i].high)) || ((c.hi + 1).tmod (qE s.cols[i] lev) == 0)):=by
  rw [decB,hcn,hat]
 have hk2:c.op = 2→s.cols[i].kind = 2:=fun h=>by
  have:=(zt.1 (hnd.under h).1).2.2
  rw [hcn,hat] at this;exact this
 have hk3:c.op = 3→s.cols[i].kind = 3:=fun h=>by
  have:=(zt.1 (hnd.between h).1).2.2
  rw [hcn,hat] at this;exact this
 have hPd:∀ L,qD s i = L→∀ j k,decP s c lev j k = !((qr s c.col lev (L.getD j 0) == qr s c.col lev (L.getD k 0)) && !(zH s c (L.getD j 0) == zH s c (L.getD k 0))):=fun L hL j k=>by rw [decP,hcn,hL]
 rw [hD]
 have hci2:vI c.col = vI i:=by rw [hci]
 refine qd qu5 mixm (by simp) fun e _ hst=>qj ?_
 unfold QC
 simp only [tZ,↓un_u,simprocAttr,hcn,qe hil]
 generalize s.cols[i] = x at hwd hlv hfin hll hk2 hk3 ⊢
 simp only [tZ,↓un_u,simprocAttr,beq_iff_eq,beq_eq_false_iff_ne]
 refine ⟨by omega,fun h2=>?_,fun h2=>?_⟩
 ·rw [if_pos h2]
  rw [← hci2] at hlv
  refine C1.im (hlv (hk2 h2)) (by rfl) (by rfl) ?_
  have hPd:=hPd _ rfl
  generalize qD s i = L at hll hPd ⊢
  have hll:=hll (hk2 h2)
  refine sW ?_
  refine qw mixm (α:=Nat) [9] (fun j=>j≤L.length∧qk5 j (decP s c lev) = true) (fun j=>[(9,vI j)]) (fun j=>[(4096,.arr 2 [schT s] false),(4100,.arr 6 [cnT c] false),(8216,.arr 7 [colT x] false)]) (fun j=>L.length - j) 0 ⟨by omega,rfl⟩ ?_ fun j hj=>?_
  ·exact .oA [(4096,some 4096),(4100,some 4100),(8216,some 8216)] []
  obtain ⟨j1,j2⟩:=hj
  refine sD ?_
  refine ⟨fun h3=>?_,fun h3=>?_⟩
  ·have hj2:j < L.length:=by omega
   have hwj:=qk (i:=j) (by omega)
   have hgj:L.getD j 0 = L[j]:=qh hj2
   refine qw mixm (α:=Nat) [10] (fun k=>k≤j∧(List.range k).all (decP s c lev j) = true) (fun k=>[(10,vI k)]) (fun k=>[(4096,.arr 2 [schT s] false),(4100,.arr 6 [cnT c] false),(8216,.arr 7 [colT x] false)]) (fun k=>j - k) 0 ⟨by omega,rfl⟩ ?_ fun k hk=>?_
   ·exact .oA [(4096,some 4096),(4100,some 4100),(8216,some 8216)] []
   obtain ⟨k1,k2⟩:=hk
   refine sD ?_
   refine ⟨fun h4=>?_,fun h4=>?_⟩
   ·have hk2:k < L.length:=by omega
    have hwk:=qk (i:=k) (by omega)
    have hgk:L.getD k 0 = L[k]:=qh hk2
    have hP:=hPd j k
    rw [hgj,hgk] at hP
    have hC1:=Jf s hok c hnd L[j]
    have hC2:=Jf s hok c hnd L[k]
    simp only [tZ,↓un_u,simprocAttr,Int.toNat_natCast,qe hj2,qe hk2]
    refine ⟨by omega,?_⟩
    refine C1.im (wg s hok.sm c.col lev L[j]) (by rfl) (by rfl) ?_
    simp only [tZ,↓un_u,simprocAttr,Int.toNat_natCast,qe hj2,qe hk2]
    refine ⟨by omega,?_⟩
    refine C1.im (wg s hok.sm c.col lev L[k]) (by rfl) (by rfl) ?_
    simp only [tZ,↓un_u,simprocAttr,Int.toNat_natCast,qe hj2,qe hk2]
    refine ⟨fun _=>by omega,?_⟩
    refine C2.im (fun _=>hC1) (fun _=>rfl) (by rfl) ?_
    simp only [tZ,↓un_u,simprocAttr,Int.toNat_natCast,qe hj2,qe hk2]
    refine ⟨fun _=>by omega,?_⟩
    refine C2.im (fun _=>hC2) (fun _=>rfl) (by rfl) ?_
    simp only [tZ,↓un_u,simprocAttr,hwk,tD,bne_iff_ne,bne_eq_false_iff_eq,beq_iff_eq,beq_eq_false_iff_ne]
    refine ⟨by kernel_rfl,fun h5=>?_,fun h5=>?_⟩
    ·rw [zz6 hj2 (show k < j by omega) (by rw [hP];grind)]
     exact .oA [] []
    ·refine ⟨k + 1,⟨by omega,?_⟩,by omega,?_⟩
     ·rw [zz5,k2,hP];grind
     ·exact .oA [(4096,some 4096),(4100,some 4100),(8216,some 8216)] []
   ·have hkj:k = j:=by omega
    subst hkj
    simp only [tZ,↓un_u,simprocAttr,hwj]
    refine ⟨k + 1,⟨by omega,?_⟩,by omega,?_⟩
    ·rw [qQ5,j2,k2];rfl
    ·exact .oA [(4096,some 4096),(4100,some 4100),(8216,some 8216)] []
  ·have hjl:j = L.length:=by omega
   subst hjl
   rw [j2]
   exact .oA [] []
 rw [if_neg h2]
 refine ⟨fun h4=>?_,fun h4=>?_⟩
 ·rw [if_pos h4]
  rw [show decide ((lev:Int) > 0) = decide (0 < lev) from by rw [Bool.eq_iff_iff,decide_eq_true_eq,decide_eq_true_eq];omega]
  exact .oA [] []
 rw [if_neg h4]
 have h3:c.op = 3:=by
  rw [hi] at ha
  simp only [tD,beq_iff_eq] at ha
  omega
 have hk3:=hk3 h3
 have hb:=hnd.between h3
 rw [if_neg (by omega)] at hfin
 refine ⟨by kernel_rfl,fun h5=>?_,fun h5=>?_⟩
 ·rw [if_pos (by omega),show decide (c.lo > x.low) = decide (x.low < c.lo) from rfl]
  exact .oA [] []
 ·rw [if_neg (by omega)]
  have hw:=hwd (by omega) lev (by omega)
  refine C1.im (KW x lev (by omega) (by omega)) (by rfl) (by rfl) ?_
  have hwh:IntKind.i64.wrap (c.hi + 1) = c.hi + 1:=IntWalk.i64_in _ (by omega)
  simp only [tZ,↓un_u,simprocAttr,hwh]
  rw [show decide (c.lo > x.low) = decide (x.low < c.lo) from rfl]
  refine ⟨fun _=>by omega,fun _=>by omega,?_⟩
  exact .oA [] []
theorem qe6 {s:Sch} (hE:schE s = 0) {i:Nat} (h1:0 < i) (h2:i < s.cols.length) (hk:(qg s i).kind = 2) {v:Int} (hv:v∈qD s i):qr s i (finI s i) v = v:=by
 have hok:=qJ hE
 obtain ⟨d1,d2⟩:=hok.cdl h2 hk
 have hf:finI s i = zk (qG s i) - 1:=by
  rw [finI,if_neg (by omega),Int.toNat_natCast,if_pos hk]
 have hh:=yV hk d2 hv
 obtain ⟨j,j1,j2,rfl⟩:=(zo6 d2).1 hv
 rw [qr,if_neg,Int.toNat_natCast,if_pos hk,if_neg (by rw [hh];simp),upC,if_neg,hf,← j2,Int.toNat_natCast,Int.toNat_natCast,zz1 (by omega)]
 ·rw [hf,← j2,Int.toNat_natCast];omega
 ·rw [Bool.not_eq_false,jA,hf,← j2];omega
theorem jq1 {s:Sch} (hE:schE s = 0) {c:Cnd} (hnd:NdOk s c) (ha:isAt c = true):0≤finI s c.col∧decB s c (finI s c.col).toNat = true:=by
 have hok:=qJ hE
 have hlv:∀ k,isB s c.col k = true→2≤k→∃ i:Nat,c.col = i∧0 < i∧i < s.cols.length∧(qg s i).kind = k:=fun k hb hk=>by
  obtain ⟨b1,b2,b3⟩:=zt.1 hb
  obtain ⟨i,hci⟩:=Int.eq_ofNat_of_zero_le b1
  rw [hci,Int.toNat_natCast] at b3
  refine ⟨i,hci,?_,by omega,b3⟩
  refine Nat.pos_of_ne_zero fun e=>?_
  subst e
  have:=hok.c0
  omega
 have hm:∀ i:Nat,0 < i→i < s.cols.length→(qg s i).kind = 3→finI s i = (qg s i).widths.length∧1≤(qg s i).widths.length:=fun i h1 h2 h3=>by
  refine ⟨by rw [finI,if_neg (by omega),Int.toNat_natCast,if_neg (by omega)],?_⟩
  have:=(qU (hok.cs i h2)).2.2.2.2 h3
  unfold measE at this
  grind
 have hop:c.op = 2∨c.op = 3∨c.op = 4:=by
  unfold isAt at ha
  simp only [Bool.or_eq_true,beq_iff_eq] at ha
  omega
 rcases hop with h | h | h
 ·obtain ⟨i,hci,h1,h2,hk⟩:=hlv 2 (hnd.under h).1 (by omega)
  obtain ⟨d1,d2⟩:=hok.cdl h2 hk
  have hf:finI s i = zk (qG s i) - 1:=by
   rw [finI,if_neg (by omega),Int.toNat_natCast,if_pos hk]
  have hf0:0≤finI s i:=by rw [hf,qk3 d2];omega
  rw [hci]
  refine ⟨hf0,?_⟩
  rw [decB,if_pos h,hci,Int.toNat_natCast,qk5,List.all_eq_true]
  intro j hj
  rw [List.mem_range] at hj
  rw [List.all_eq_true]
  intro k hk2
  rw [List.mem_range] at hk2
  have e:(((finI s i).toNat:Nat):Int) = finI s i:=by omega
  rw [decP,hci,Int.toNat_natCast,e,qh hj,qh (by omega),qe6 hE h1 h2 hk (List.getElem_mem _),qe6 hE h1 h2 hk (List.getElem_mem _)]
  grind
 ·obtain ⟨i,hci,h1,h2,hk⟩:=hlv 3 (hnd.between h).1 (by omega)
  obtain ⟨m1,m2⟩:=hm i h1 h2 hk
  have hw:=hok.wid h2 h1 (by omega) (lev:=(qg s i).widths.length) (by omega)
  rw [hci,m1]
  refine ⟨by omega,?_⟩
  rw [decB,if_neg (by omega),if_neg (by omega),hci,Int.toNat_natCast,Int.toNat_natCast]
  dsimp only
  rw [if_neg (by omega),hw.2.2.2.2.2.2.2]
  simp
 ·obtain ⟨i,hci,h1,h2,hk⟩:=hlv 3 (hnd.miss h).1 (by omega)
  obtain ⟨m1,m2⟩:=hm i h1 h2 hk
  rw [hci,m1]
  refine ⟨by omega,?_⟩
  rw [decB,if_neg (by omega),if_pos h,Int.toNat_natCast]
  exact decide_eq_true (by omega)
theorem Ki {s:Sch} (hE:schE s = 0) {c:Cnd} (hnd:NdOk s c) (ha:isAt c = true):(decN s c:Int)≤finI s c.col∧decB s c (decN s c) = true∧(∀ m,m < decN s c→decB s c m = false):=by
 obtain ⟨h1,h2⟩:=jq1 hE hnd ha
 have h3:=qe4 (c:=c.col) hE
 obtain ⟨a,b,_,d⟩:=qe1 h2 64 0 (by omega) (by omega)
 unfold decN
 exact ⟨by omega,a,fun m hm=>d m (by omega) hm⟩
def qv9 (s:Sch):List Pk→Cnd→List Pk:=fun l a=>KX l a.col (decN s a)
theorem qF0 (s:Sch):∀ (L:List Cnd) (l:List Pk),(L.foldl (qv9 s) l).length≤l.length + L.length
 | [],l=>Nat.le_refl _
 | a :: L,l=>by
   have h1:=qF0 s L (qv9 s l a)
   have h2:=ql1 l a.col (decN s a)
   rw [List.foldl_cons,List.length_cons]
   unfold qv9 at h1 ⊢
   omega
theorem qW8 (s:Sch) (hs:Qp s) (hL:0 < s.lists.length) (c:Cnd):Spc Tryz.prog Kw [schT s,cnT c] [] (vPs (zO s c)) []:=by
 refine qd qH4 mixm (by simp) fun e _ hst=>qj ?_
 unfold Jm
 refine sW ?_
 refine C1.im (KY s hs hL c) (by rfl) (by rfl) ?_
 simp only [tZ,↓un_u,simprocAttr,bne_iff_ne,bne_eq_false_iff_eq]
 refine ⟨fun h=>?_,fun h=>?_⟩
 ·rw [zO,if_pos h]
  exact .oA [] []
 obtain ⟨hE,k2,k3,k4⟩:=KZ h
 have hal:=qq5 c 41 (by omega) k2
 have hao:=qQ4 c k4
 have hN:zO s c = (atsC c).foldl (qv9 s) []:=by rw [zO,if_neg (by rw [h];simp)];rfl
 rw [hN]
 refine C1.im (qW6 c 41 (by omega) (by omega) k2) (by rfl) (by rfl) ?_
 generalize atsC c = L at hal hao ⊢
 refine sW ?_
 refine qw mixm (α:=Nat) [5,7,12] (fun i=>i≤L.length) (fun i=>[(5,vPs ((L.take i).foldl (qv9 s) [])),(7,vI i)]) (fun i=>[(4096,.arr 2 [schT s] false)]) (fun i=>L.length - i) 0 (by omega) ?_ fun i hi=>?_
 ·exact .oA [(4096,some 4096)] []
 have hlen:=qF0 s (L.take i) []
 rw [List.length_take] at hlen
 refine sD ?_
 refine ⟨fun h3=>?_,fun h3=>?_⟩
 ·have hi2:i < L.length:=by omega
  have hwi:=qk (i:=i) (by omega)
  obtain ⟨hnd,ha⟩:=hao _ (List.getElem_mem hi2)
  obtain ⟨n1,n2,n3⟩:=Ki hE hnd ha
  have h59:=qe4 (c:=L[i].col) hE
  refine qw mixm (α:=Nat) [8] (fun n=>n≤decN s L[i]) (fun n=>[(8,vI n)]) (fun n=>[(4096,.arr 2 [schT s] false)]) (fun n=>decN s L[i] - n) 0 (by omega) ?_ fun n hn=>?_
  ·exact .oA [(4096,some 4096)] []
  have hwn:=qk (i:=n) (by omega)
  simp only [tZ,↓un_u,simprocAttr,Int.toNat_natCast,qe hi2,zx]
  refine ⟨by omega,?_⟩
  refine C1.im (qE9 s hE L[i] hnd ha n (by omega)) (by rfl) (by rfl) ?_
  simp only [tZ,↓un_u,simprocAttr,Bool.not_eq_true',Bool.not_eq_false',hwn]
  refine ⟨by kernel_rfl,fun h4=>?_,fun h4=>?_⟩
  ·have:n≠decN s L[i]:=fun e=>by rw [e,n2] at h4;cases h4
   refine ⟨n + 1,by omega,by omega,?_⟩
   exact .oA [(4096,some 4096)] []
  ·have:n = decN s L[i]:=by
    refine Nat.le_antisymm hn (Nat.le_of_not_lt fun e=>?_)
    rw [n3 n e] at h4;cases h4
   subst this
   simp only [tZ,↓un_u,simprocAttr,Int.toNat_natCast,qe hi2,zx]
   refine ⟨by omega,?_⟩
   refine C1.im (qW7 ((L.take i).foldl (qv9 s) []) L[i].col (decN s L[i]) (by simp at hlen;omega)) (by rfl) (by rfl) ?_
   simp only [tZ,↓un_u,simprocAttr,hwi]
   refine ⟨i + 1,by omega,by omega,?_⟩
   rw [qM hi2,List.foldl_append]
   show Le _ _ ⟨(5,vPs (KX ((L.take i).foldl (qv9 s) []) L[i].col (decN s L[i]))) :: _,_⟩
   exact .oA [(4096,some 4096)] []
 ·have hil:i = L.length:=by omega
  subst hil
  rw [List.take_length]
  exact .oA [] []
end Go.Proofs
namespace Go.Proofs
open Go Go.TL
set_option maxHeartbeats 4000000
end Go.Proofs
namespace Go.Proofs
open Go Go.TL
set_option maxHeartbeats 4000000
theorem zj0:∀ (m l:List Pk),(Yp l m).length≤l.length + m.length
 | [],l=>Nat.le_refl _
 | p :: m,l=>by
   have h1:=zj0 m (KX l p.col p.lev)
   have h2:=ql1 l p.col p.lev
   unfold Yp at h1 ⊢
   rw [List.foldl_cons,List.length_cons]
   omega
theorem ql2 (s:Sch) (c:Cnd):(zO s c).length≤40:=by
 unfold zO
 split
 ·simp
 ·rename_i h
  obtain ⟨hE,k2,k3,k4⟩:=KZ (Classical.byContradiction h)
  have h1:=qq5 c 41 (by omega) k2
  have h2:=qF0 s (atsC c) []
  simp only [List.length_nil] at h2
  unfold qv9 at h2
  omega
structure QstOk (s:Sch) (q:Qst):Prop where
 sch:schE s = 0
 kind:1≤q.kind∧q.kind≤3
 filt:chkC s q.filt = 0
 dims:q.kind = 1→JO s q.dims = 0∧(q.meas = -1∨isB s q.meas 3 = true)
 nd:q.dims.length≤3
 terms:q.kind = 2→isB s q.meas 3 = true∧yu s q.meas q.terms = 0
 nt:q.terms.length≤3
 event:q.kind = 3→isB s q.meas 3 = true∧0≤(qg s q.meas.toNat).low∧chkC s q.event = 0
 d0:q.kind≠1→q.dims = []
 t0:q.kind≠2→q.terms = []
 e0:q.kind≠3→qe2 q.event cnd0 = true
theorem qq6 {s:Sch} {q:Qst} (h:qstE s q = 0):QstOk s q:=by
 unfold qstE at h
 split at h
 ·rename_i h1;exact absurd h h1
 rename_i h1
 split at h
 ·cases h
 rename_i h2
 split at h
 ·cases h
 rename_i h3
 split at h
 ·rename_i h4;exact absurd h h4
 rename_i h4
 split at h
 ·rename_i h5;exact absurd h h5
 rename_i h5
 split at h
 ·cases h
 rename_i h6
 have hp:kK s q = 0:=Classical.byContradiction h5
 unfold kK at hp
 have hd:q.kind = 1→JO s q.dims = 0∧(q.meas = -1∨isB s q.meas 3 = true):=fun k=>by
  rw [if_pos k] at hp
  grind
 have ht:q.kind = 2→isB s q.meas 3 = true∧yu s q.meas q.terms = 0:=fun k=>by
  rw [if_neg (by omega),if_pos k] at hp
  grind
 have hd0:q.kind≠1→q.dims = []:=fun k=>List.length_eq_zero_iff.1 (by omega)
 have ht0:q.kind≠2→q.terms = []:=fun k=>List.length_eq_zero_iff.1 (by omega)
 refine ⟨Classical.byContradiction h1,by omega,Classical.byContradiction h4,hd,?_,ht,?_,fun k=>?_,hd0,ht0,fun k=>?_⟩
 ·by_cases k:q.kind = 1
  ·have:=(hd k).1
   unfold JO at this
   grind
  ·rw [hd0 k];simp
 ·by_cases k:q.kind = 2
  ·have:=(ht k).2
   unfold yu at this
   grind
  ·rw [ht0 k];simp
 ·rw [if_neg (by omega),if_neg (by omega)] at hp
  grind
 ·grind
theorem qQ6 (s:Sch):∀ (m l:List Pk),(m.foldl (fun l p=>KX l p.col (yv s p.col p.lev)) l).length≤l.length + m.length
 | [],l=>Nat.le_refl _
 | p :: m,l=>by
   have h1:=qQ6 s m (KX l p.col (yv s p.col p.lev))
   have h2:=ql1 l p.col (yv s p.col p.lev)
   rw [List.foldl_cons,List.length_cons]
   omega
theorem qQ7 (s:Sch) (q:Qst):∀ (m:List Nat) (l:List Pk),(m.foldl (qt4 s q) l).length≤l.length + m.length
 | [],l=>Nat.le_refl _
 | k :: m,l=>by
   have h1:=qQ7 s q m (qt4 s q l k)
   have h2:(qt4 s q l k).length≤l.length + 1:=by
    unfold qt4
    split
    ·exact ql1 _ _ _
    ·omega
   rw [List.foldl_cons,List.length_cons]
   omega
def zV3 (s:Sch) (q:Qst):List Pk:=if q.kind = 3 then Yp (zO s q.filt) (zO s q.event) else zO s q.filt
theorem zF2 (s:Sch) (q:Qst):(zV3 s q).length≤80:=by
 have h1:=ql2 s q.filt
 have h2:=ql2 s q.event
 have h3:=zj0 (zO s q.event) (zO s q.filt)
 unfold zV3
 split <;> omega
theorem zj1 (s:Sch) (q:Qst):(qe3 s q).length≤100:=by
 unfold qe3 jq0
 split
 ·simp
 ·rename_i h
  have hq:=qq6 (Classical.byContradiction h)
  have h1:=zF2 s q
  unfold zV3 at h1
  have h2:=qQ6 s q.dims (if q.kind = 3 then Yp (zO s q.filt) (zO s q.event) else zO s q.filt)
  have h3:=qQ7 s q (List.range (s.cols.length - 1)) (q.dims.foldl (fun l p=>KX l p.col (yv s p.col p.lev)) (if q.kind = 3 then Yp (zO s q.filt) (zO s q.event) else zO s q.filt))
  have h4:=(qJ hq.sch).nc
  have h5:=hq.nd
  rw [List.length_range] at h3
  omega
end Go.Proofs
namespace Go.Proofs
open Go Go.TL
def hd (r:List Int):Int:=r.getD 0 0
def putS (row:List Int):List (List Int)×Bool→List Int→List (List Int)×Bool:=fun x r=>
 if hd r = hd row then x
 else if hd r > hd row∧x.2 = false then (x.1 ++ [row] ++ [r],true)
 else (x.1 ++ [r],x.2)
def putR (l:List (List Int)) (row:List Int):List (List Int):=
 let x:=l.foldl (putS row) ([],false)
 if x.2 then x.1 else x.1 ++ [row]
def atR (id:Int) (r:List Int):Bool:=decide (0 < r.length) && (hd r == id)
def jw5 (s:Src) (id:Int):Int:=if s.rows.any (atR id) = true then (s.rows.findIdx (atR id):Int) else -1
def asc2 (l:List Int) (i:Nat):Bool:=decide (i = 0) || decide (l.getD (i - 1) 0 < l.getD i 0)
def jq2 (s:Src):Bool:=(List.range s.rows.length).all fun i=>(rowE s.sch (s.rows.getD i []) == 0) && (decide (i = 0) || decide (hd (s.rows.getD (i - 1) []) < hd (s.rows.getD i [])))
def jw6 (s:Src):Bool:=(List.range s.gone.length).all fun i=>decide (1≤s.gone.getD i 0) && decide (s.gone.getD i 0≤1048575) && asc2 s.gone i && decide (jw5 s (s.gone.getD i 0) < 0)
def srcB (s:Src):Bool:=(schE s.sch == 0) && decide (s.rows.length≤200) && decide (s.gone.length≤300) && decide (0≤s.ver) && decide (s.ver≤300) && jq2 s && jw6 s
end Go.Proofs
namespace Go.Proofs
open Go Go.TL
def AscR (l:List (List Int)):Prop:=l.Pairwise fun a b=>hd a < hd b
end Go.Proofs
namespace Go.Proofs
open Go Go.TL
structure SrcOk (s:Src):Prop where
 sch:schE s.sch = 0
 nr:s.rows.length≤200
 ng:s.gone.length≤300
 ver:0≤s.ver∧s.ver≤300
 rows:∀ r∈s.rows,rowE s.sch r = 0
 asc:AscR s.rows
 gone:∀ g∈s.gone,1≤g∧g≤1048575∧jw5 s g < 0
 gasc:s.gone.Pairwise fun a b=>a < b
end Go.Proofs
namespace Go.Proofs
open Go Go.TL
set_option maxHeartbeats 4000000
open So
end Go.Proofs
namespace Go.Proofs
open Go Go.TL
set_option maxHeartbeats 4000000
open So
end Go.Proofs
namespace Go.Proofs
open Go Go.TL
set_option maxRecDepth 4000
def iter {α:Type} (f:α→α):Nat→α→α
 | 0,x=>x
 | n + 1,x=>f (iter f n x)
def tie (p:Int×Int):Int:=p.1 * 1024 + p.2
def cut (n:Int):Int×Int:=(n / 1024,n % 1024)
end Go.Proofs
namespace Go.Proofs
open Go Go.TL
set_option maxHeartbeats 4000000
open So
def drw0 (seed id:Int):Int:=IntKind.u64.wrap (IntKind.u64.wrap (IntKind.u64.wrap (IntKind.u64.wrap seed * 2654435761) + IntKind.u64.wrap (IntKind.u64.wrap id * 40503)) + 97)
def drwA (h:Int):Int:=IntKind.u64.wrap (IntKind.u64.wrap (h * 6364136223846793005) + 1442695040888963407)
def drwX (h:Int):Int:=xorI .u64 (drwA h) (shrI .u64 (drwA h) 29)
def drwI (seed id:Int):Int:=IntKind.i64.wrap (shrI .u64 (iter drwX 3 (drw0 seed id)) 32)
def inS (x:Smp) (id:Int):Bool:=(smpE x == 0) && decide (1≤id) && decide (id≤1048575) && decide ((drwI x.seed id).tmod x.of < x.part)
def ownP (s:Src) (d:Dcl) (r:List Int):Bool:=(zF1 s.sch d.coh r == 1) && inS d.smp (hd r)
def ownR (s:Src) (d:Dcl):List (List Int):=if srcB s = false∨dclE s.sch d≠0 then [] else s.rows.filter (ownP s d)
def ownS (s:Src) (d:Dcl):List Int:=(ownR s d).map hd
end Go.Proofs
namespace Go.Proofs
open Go Go.TL
set_option maxHeartbeats 4000000
def buildE (s:Src) (d:Dcl) (l:List Pk) (k:Int):Int:=if srcB s = false then 13 else if jw4 s.sch d l≠0 then jw4 s.sch d l else if k < 0∨k≥1152921504606846976 then 2 else 0
end Go.Proofs
